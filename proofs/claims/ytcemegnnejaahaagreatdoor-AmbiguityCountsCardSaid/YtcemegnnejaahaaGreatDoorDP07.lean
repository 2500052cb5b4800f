/- Lemmas for the law AmbiguityCounts, part 7. No conditions. -/
import Derived.Test.YtcemegnnejaahaaGreatDoorDP06
set_option maxRecDepth 100000
set_option maxHeartbeats 4000000
set_option linter.all false
namespace Go.Ab
section
variable {P:Program} {N:Nat} {st s1 st':St} {d:Nat} {Q:Exit->St->Prop}
theorem ztq(t:Nat)(v:AV)(n:Nat):∀ l:List (Nat × AV),look (rep l t v) n AV.undef=if t=n then v else look l n AV.undef
 | []=>by simp[rep,look]
 | (k,w)::r=>by
  have ih:=ztq t v n r;simp[rep];split
  ·rename_i h;subst h;simp[look]
   grind
  ·rename_i h;simp[look,ih];split
   ·grind
   ·rfl
theorem zlb(dead:List Nat)(n:Nat):∀ l:List (Nat × AV),look (zgt dead l) n AV.undef=look l n AV.undef\/look (zgt dead l) n AV.undef=.undef
 | []=>.inl rfl
 | (k,w)::r=>by
  have ih:=zlb dead n r;have hdead:∀ l:List (Nat × AV),dead.elem n=true->look (zgt dead l) n AV.undef=.undef:=by
   intro l hn
   induction l with
   | nil=>rfl
   | cons q l ih =>
    simp[zgt];split
    ·omega
    ·rename_i hk;simp[look];split
     ·grind
     ·omega
  simp[zgt];split
  ·rename_i hk;simp[look];split
   ·grind
   ·omega
  ·simp[look];split
   ·simp
   ·omega
theorem zls(st:St)(t:Option Nat)(v:AV):Eqv (st.put t v) (st.rep t v):=by
 cases t with
 | none=>exact Eqv.refl _
 | some t =>
  refine⟨fun n=>?_,fun n=>rfl⟩;rw[zdw];show look (rep st.sl t v) n AV.undef=_;rw[ztq];simp[St.get]
theorem zjh{t:Nat}{v:AV}(h:st.get t=v):Eqv st (st.rep (some t) v):=by
 refine Eqv.trans (t:=st.put (some t) v) ⟨fun n=>?_,fun n=>rfl⟩ (zls st (some t) v);rw[zdw];split
 ·grind
 ·rfl
theorem zjt{s t:St}(h:Eqv s t):Weak s t:=fun _ Z _ _ hs=>⟨Z,hs.eqv h,.of_zle (zbk h.site _)⟩
theorem zhv(st:St)(dead:List Nat):Weak st (st.drop dead):=fun K Z w a hs=>by
 have hz:ZLe Z st Z (st.drop dead):=zbk (s:=st) (t:=st.drop dead) (fun _=>rfl) Z;refine⟨Z,⟨fun t=>?_,hs.defers,hs.size,hs.heap.of_site fun _=>rfl⟩,.of_zle hz⟩;rcases zlb dead t st.sl with h|h
 ·show ARep Z _ (look (zgt dead st.sl) t AV.undef) _;rw[h];exact ARep.mono hz (hs.slots t)
 ·show ARep Z _ (look (zgt dead st.sl) t AV.undef) _;rw[h];exact .undef _
structure Le (s t:St):Prop where
 get:∀ n,s.get n=t.get n\/s.get n=.undef
 site:∀ n,t.site n=s.site n
theorem Le.refl(s:St):Le s s:=⟨fun _=>.inl rfl,fun _=>rfl⟩
theorem Le.trans{s t u:St}(h:Le s t)(k:Le t u):Le s u :=
 ⟨fun n=>(h.get n).elim (fun e=>(k.get n).elim (fun e2=>.inl (e.trans e2)) (fun e2=>.inr (e.trans e2))) .inr,fun n=>(k.site n).trans (h.site n)⟩
theorem Le.of_eqv{s t:St}(h:Eqv s t):Le s t:=⟨fun n=>.inl (h.get n).symm,h.site⟩
theorem Le.weak{s t:St}(h:Le s t):Weak t s:=fun K Z w a hs=>by
 have hz:ZLe Z t Z s:=zbk (s:=t) (t:=s) (fun n=>(h.site n).symm) Z;refine⟨Z,⟨fun n=>?_,hs.defers,hs.size,hs.heap.of_site fun n=>(h.site n).symm⟩,.of_zle hz⟩;rcases h.get n with e|e
 ·rw[e];exact ARep.mono hz (hs.slots n)
 ·rw[e];exact .undef _
theorem z6z(st:St)(dead:List Nat):Le (st.drop dead) st:=⟨fun n=>zlb dead n st.sl,fun _=>rfl⟩
theorem zj5(st:St)(dead:List (List Nat)):Le (st.dropI dead) st:=by
 match dead with
 | []=>exact Le.refl _
 | []::_=>exact Le.refl _
 | (a::l)::_=>exact z6z st (a::l)
theorem Le.put{s t:St}(h:Le s t)(d:Option Nat){v w:AV}(hv:v=w\/v=.undef):Le (s.put d v) (t.put d w):=by
 refine⟨fun n=>?_,fun n=>by rw[za6,za6];exact h.site n⟩;rw[zdw,zdw];split
 ·omega
 ·exact h.get n
theorem Le.ev{s t:St}(h:Le s t)(x:Opd):s.ev x=t.ev x\/s.ev x=.undef:=by
 cases x with
 | t n=>exact h.get n
 | c v=>exact .inl rfl
theorem zh9:∀ {ps:List (Nat × Nat × AV)} {cells cs:List AV},zcy cells ps=some cs->∀ p∈ps,p.2.2 ≠ .undef
 | [],_,_,_,p,hp=>by cases hp
 | (off,sz,v)::r,cells,cs,h,p,hp=>by
  simp only[zcy]at h;split at h
  ·rename_i hc;rcases yf4.1 hp with rfl|hp
   ·intro e;simp only at e;rw[e]at hc;simp[AV.sz]at hc;omega
   ·exact zh9 h p hp
  ·grind
theorem zia:∀ {sz:Nat} {ps:List (Nat × AV)} {es r:List AV},0<sz->zcz es sz ps=some r->∀ p∈ps,p.2 ≠ .undef
 | _,[],_,_,_,_,p,hp=>by cases hp
 | sz,(i,v)::ps,es,r,h0,h,p,hp=>by
  simp only[zcz]at h;split at h
  ·rename_i hc;rcases yf4.1 hp with rfl|hp
   ·intro e;simp only at e;rw[e]at hc;simp[AV.sz]at hc;omega
   ·exact zia h0 h p hp
  ·grind
theorem ztm{st:St}:∀ {l:List AV} {ps:List PV},l.mapM (toPV st FUEL)=some ps->∀ v∈l,v ≠ .undef
 | [],_,_,v,hv=>by cases hv
 | u::l,ps,h,v,hv=>by
  obtain⟨y,ys,h1,h2,_⟩:=zbz h;rcases yf4.1 hv with rfl|hv
  ·intro e;rw[e]at h1;cases h1
  ·exact ztm h2 v hv
theorem zeo{orc:Option PCall}{f:FuncId}{vs:List AV}{v:AV}{s:St}(h:zcc orc st d f vs=some (v,s)):∀ v∈vs,v ≠ .undef:=by
 obtain⟨c,_,_,hm,_⟩:=zcb h;cases hH:zp7 c.res with
 | true =>
  unfold zjl at hm;cases hr:c.res with
  | hsp vs0 hp res hp'=>rw[hr]at hm;intro v hv e;subst e;exact hm.2.1 hv
  | _=>rw[hr]at hH;cases hH
 | false =>
  rw[zxx hH]at hm;exact ztm hm
theorem zmy{mx:Bool}:∀ {l:List AV} {r:PV},zgj mx l=some r->∀ v∈l,v ≠ .undef:=by
 have key:∀ (f:PV->AV->Option PV) (hf:∀ a,f a .undef=none) (l:List AV) (a r:PV),l.foldlM f a=some r->∀ v∈l,v ≠ .undef:=by
  intro f hf l
  induction l with
  | nil=>intro a r _ v hv;cases hv
  | cons x l ih =>
   intro a r h v hv;simp at h;cases hx:f a x with
   | none=>rw[hx]at h;cases h
   | some b =>
    rw[hx]at h;rcases yf4.1 hv with rfl|hv
    ·grind
    ·grind
 intro l r h;unfold zgj at h;split at h
 ·grind
 ·grind
theorem zd5{o:Option Opd}{n m:Nat}(h:zdk st o n=some m):∀ x∈zai o,st.ev x ≠ .undef:=by
 intro x hx;cases o with
 | none=>cases hx
 | some y =>
  simp[zai]at hx;subst hx;intro e;simp only[zdk,e]at h;cases h
theorem zcv{v:AV}{n:Nat}(h:ziq v=some n):v ≠ .undef:=by intro e;rw[e]at h;cases h
theorem z7j{orc:Option PCall}{op:IOp}{v:AV}{s:St}(h:eff orc st d op=some (v,s)):(∃ x,op=.mv x)\/(∃ c a b,op=.pick c a b)\/∀ x∈op.opds,st.ev x ≠ .undef:=by
 cases op<;>simp only[eff]at h<;>simp only[IOp.opds]
 case mv x=>exact .inl ⟨x,rfl⟩
 case pick c a b=>exact .inr (.inl ⟨c,a,b,rfl⟩)
 all_goals refine .inr (.inr fun z hz=>?_)
 case alloc|raw|bad=>cases hz
 case box sz x =>
  simp only[ygj]at hz;subst hz;split at h
  ·rename_i hc;intro e;rw[e]at hc;simp[AV.sz]at hc;omega
  ·cases h
 case build zero ps =>
  split at h
  ·rename_i cs hc;obtain⟨p,hp,rfl⟩:=yf6.1 hz;exact zh9 hc (p.1,p.2.1,st.ev p.2.2) (yf6.2 ⟨p,hp,rfl⟩)
  ·cases h
 case bslice sz zero n ps =>
  split at h
  ·rename_i h0;split at h
   ·rename_i es hc;obtain⟨p,hp,rfl⟩:=yf6.1 hz;have:=zia h0.2.1 hc (p.1,(st.ev p.2).pur) (yf6.2 ⟨p,hp,rfl⟩);intro e;exact this (by simp only[e,AV.pur])
   ·cases h
  ·cases h
 case load|nilck|not|neg|ixor|conv|faddr|extract|len|isnil|cap|clear =>
  simp only[ygj]at hz;subst hz;intro e;simp only[e]at h;cases h
 case field off sz ag x =>
  simp only[ygj]at hz;subst hz;intro e;simp only[e,AV.acells]at h;cases h
 case appendz sz z a x =>
  simp only[yf4,ygd,or_false]at hz;split at h
  ·rename_i h1 h2;rcases hz with rfl|rfl
   ·rw[h1];intro e;cases e
   ·exact zcv h2
  ·cases h
 case mlook qs z x k =>
  simp only[yf4,ygd,or_false]at hz;split at h
  ·rename_i h1 h2;rcases hz with rfl|rfl
   ·rw[h1];intro e;cases e
   ·rw[h2];intro e;cases e
  ·cases h
 case mlookc qs z x k =>
  simp only[yf4,ygd,or_false]at hz;split at h
  ·rename_i h1 h2;rcases hz with rfl|rfl
   ·rw[h1];intro e;cases e
   ·rw[h2];intro e;cases e
  ·cases h
 case sidx x i =>
  simp only[yf4,ygd,or_false]at hz;split at h
  ·rename_i h1 h2;rcases hz with rfl|rfl
   ·rw[h1];intro e;cases e
   ·exact zcv h2
  ·cases h
 case store sz a x =>
  simp only[yf4,ygd,or_false]at hz;split at h
  ·rename_i he;split at h
   ·split at h
    ·split at h
     ·rename_i hc;rcases hz with rfl|rfl
      ·rw[he];intro e;cases e
      ·intro e;rw[e]at hc;simp[AV.sz]at hc;omega
     ·cases h
    ·cases h
   ·cases h
  ·cases h
 case ibin op x y =>
  simp only[yf4,ygd,or_false]at hz;split at h
  ·rename_i hb;unfold ibin at hb;split at hb
   ·rename_i h1 h2;rcases hz with rfl|rfl
    ·rw[h1];intro e;cases e
    ·rw[h2];intro e;cases e
   ·cases hb
  ·cases h
 case bbin op x y =>
  simp only[yf4,ygd,or_false]at hz;split at h
  ·rename_i hb;unfold bbin at hb;split at hb
   ·rename_i h1 h2;rcases hz with rfl|rfl
    ·rw[h1];intro e;cases e
    ·rw[h2];intro e;cases e
   ·cases hb
  ·cases h
 case abin ks op x y =>
  simp only[yf4,ygd,or_false]at hz;split at h
  ·rename_i hb;unfold abin at hb;split at hb
   ·rename_i h1 h2;rcases hz with rfl|rfl
    ·rw[h1];intro e;cases e
    ·rw[h2];intro e;cases e
   ·cases hb
  ·cases h
 case mkbm f x =>
  simp only[yf4,ygd,or_false]at hz;subst hz;split at h
  ·rename_i h1;rw[h1];intro e;cases e
  ·cases h
 case mkfn f caps =>
  split at h
  ·rename_i hc;have:=yfp.1 hc (st.ev z) (yf6.2 ⟨z,hz,rfl⟩);intro e;rw[e]at this;cases this
  ·cases h
 case mkslice sz zero l c =>
  simp only[yf4,ygd,or_false]at hz;split at h
  ·rename_i h1 h2;rcases hz with rfl|rfl
   ·exact zcv h1
   ·exact zcv h2
  ·cases h
 case slice sz x lo hi =>
  simp only[yf4,yfk]at hz;split at h
  ·rename_i l es h1 h2;split at h
   ·rename_i k h3;rcases hz with rfl|hz|hz
    ·rw[h2];intro e;cases e
    ·exact zd5 h1 z hz
    ·exact zd5 h3 z hz
   ·cases h
  ·rename_i l s' g off len h1 h2;split at h
   ·rename_i k h3;rcases hz with rfl|hz|hz
    ·rw[h2];intro e;cases e
    ·exact zd5 h1 z hz
    ·exact zd5 h3 z hz
   ·cases h
  ·rename_i l h1 h2;split at h
   ·rename_i k h3;rcases hz with rfl|hz|hz
    ·rw[h2];intro e;cases e
    ·exact zd5 h1 z hz
    ·exact zd5 h3 z hz
   ·cases h
  ·cases h
 case iaddr sz x i =>
  simp only[yf4,ygd,or_false]at hz;split at h
  ·rename_i h1 h2;rcases hz with rfl|rfl
   ·rw[h2];intro e;cases e
   ·exact zcv h1
  ·rename_i h1 h2;rcases hz with rfl|rfl
   ·rw[h2];intro e;cases e
   ·exact zcv h1
  ·cases h
 case iaddrA m sz x i =>
  simp only[yf4,ygd,or_false]at hz;split at h
  ·rename_i h1 h2;rcases hz with rfl|rfl
   ·rw[h2];intro e;cases e
   ·exact zcv h1
  ·rename_i h1 h2;rcases hz with rfl|rfl
   ·rw[h2];intro e;cases e
   ·exact zcv h1
  ·cases h
 case idx m sz ag x i =>
  simp only[yf4,ygd,or_false]at hz;split at h
  ·rename_i h1;rcases hz with rfl|rfl
   ·intro e;simp only[e,AV.acells]at h;split at h<;>cases h
   ·exact zcv h1
  ·cases h
 case append sz a x =>
  simp only[yf4,ygd,or_false]at hz;split at h
  ·rename_i h1;rcases hz with rfl|rfl
   ·intro e;simp only[e]at h;split at h<;>cases h
   ·intro e;rw[e]at h1;cases h1
  ·cases h
 case min xs =>
  split at h
  ·rename_i h1;exact zmy h1 _ (yf6.2 ⟨z,hz,rfl⟩)
  ·cases h
 case max xs =>
  split at h
  ·rename_i h1;exact zmy h1 _ (yf6.2 ⟨z,hz,rfl⟩)
  ·cases h
 case call f args=>exact zeo h _ (yf6.2 ⟨z,hz,rfl⟩)
 case callv x args =>
  simp only[yf4]at hz;split at h
  ·rename_i h1;rcases hz with rfl|hz
   ·rw[h1];intro e;cases e
   ·exact zeo h _ (yfk.2 (.inl (yf6.2 ⟨z,hz,rfl⟩)))
  ·rename_i h1;rcases hz with rfl|hz
   ·rw[h1];intro e;cases e
   ·exact zeo h _ (yfk.2 (.inl (yf6.2 ⟨z,hz,rfl⟩)))
  ·rename_i h1;rcases hz with rfl|hz
   ·rw[h1];intro e;cases e
   ·exact zeo h _ (ygk _ (yf6.2 ⟨z,hz,rfl⟩))
  ·cases h
theorem z6y{s t s1 t1:St}{R W:List Nat}(h:Le s t)(e:Same s s1 t t1 R W)(d:Option Nat)(v:AV):Le (s1.put d v) (t1.put d v):=by
 obtain⟨a1,a2,a3,a4,a5,a6⟩:=e;have h1:Le s1 t1:=by
  refine⟨fun n=>?_,fun n=>?_⟩
  ·have e1:s1.get n=s.get n:=zjf a5 n;have e2:t1.get n=t.get n:=zjf a4 n;rw[e1,e2];exact h.get n
  ·by_cases hn:n∈W
   ·grind
   ·rw[a2 n hn,a3 n hn];exact h.site n
 exact h1.put d (.inl rfl)
theorem z7a{orc:Option PCall}{i:Ins}{s s' t:St}(h:Le s t)(he:exec orc s i=some s'):∃ t',exec orc t i=some t'/\fp orc t i=fp orc s i/\Le s' t':=by
 have hrun:(∃ v s1,eff orc s (i.dst.getD 0) i.op=some (v,s1)/\s'=s1.put i.dst v/\(∀ orc,exec orc t i=zdz orc t i)/\runs t i=runs s i) \/
   (s'=s.put i.dst .skip/\exec orc t i=some (t.put i.dst .skip)/\runs t i=false/\runs s i=false):=by
  unfold exec at he;split at he
  ·rename_i hg;unfold zdz at he;split at he
   ·rename_i v s1 h1;cases he;exact .inl ⟨v,s1,h1,rfl,fun orc=>by simp only[exec,hg],by simp only[runs,hg]⟩
   ·grind
  ·rename_i g b hg;split at he
   ·rename_i c hc;have hgt:t.get g=.p (.bool c):=by
     rcases h.get g with e|e
     ·grind
     ·grind
    split at he
    ·rename_i hcb;unfold zdz at he;split at he
     ·rename_i v s1 h1;cases he;exact .inl ⟨v,s1,h1,rfl,fun orc=>by simp only[exec,hg,hgt,hcb,yf2],by simp only[runs,hg,hgt,hc]⟩
     ·grind
    ·rename_i hcb;cases he;exact .inr ⟨rfl,by simp only[exec,hg,hgt,hcb,if_false],by simp only[runs,hg,hgt];simpa using hcb,by simp only[runs,hg,hc];simpa using hcb⟩
   ·rename_i hc;have hgt:t.get g=.skip:=by
     rcases h.get g with e|e
     ·rw[<- e,hc]
     ·rw[hc]at e;cases e
    cases he;exact .inr ⟨rfl,by simp only[exec,hg,hgt],by simp only[runs,hg,hgt],by simp only[runs,hg,hc]⟩
   ·cases he
 rcases hrun with⟨v,s1,h1,rfl,hx,hr⟩|⟨rfl,h1,h2,h3⟩
 ·rcases z7j h1 with⟨x,hop⟩|⟨c,a,b,hop⟩|hd
  ·rw[hop]at h1;simp only[eff,yf3,yf5]at h1;obtain⟨rfl,rfl⟩:=h1;refine⟨t.put i.dst (t.ev x),by rw[hx];simp only[zdz,hop,eff],by simp only[fp,hr,hop,effR,effW],h.put _ (h.ev x)⟩
  ·rw[hop]at h1;simp only[eff]at h1;have hc:∀ q,s.ev c=.p (.bool q)->t.ev c=.p (.bool q):=fun q hq=>by
    rcases h.ev c with e|e
    ·rw[<- e,hq]
    ·rw[hq]at e;cases e
   split at h1
   ·rename_i hq;cases h1;exact⟨t.put i.dst (t.ev a),by rw[hx];simp only[zdz,hop,eff,hc _ hq],by simp only[fp,hr,hop,effR,effW],h.put _ (h.ev a)⟩
   ·rename_i hq;cases h1;exact⟨t.put i.dst (t.ev b),by rw[hx];simp only[zdz,hop,eff,hc _ hq],by simp only[fp,hr,hop,effR,effW],h.put _ (h.ev b)⟩
   ·cases h1
  ·have hev:∀ x∈i.op.opds,t.ev x=s.ev x:=fun x hx=>(h.ev x).elim (fun e=>e.symm) (fun e=>absurd e (hd x hx));obtain⟨t1,e1,e2⟩:=zlu (orc:=orc) h1 hev (fun n _=>h.site n);have hs:=znb (orc:=orc) (d:=i.dst.getD 0) hev (fun n _=>h.site n);refine⟨t1.put i.dst v,by rw[hx];simp only[zdz,e1],by simp only[fp,hr,hs.1,hs.2],?_⟩;exact z6y h e2 i.dst v
 ·exact⟨_,h1,by simp only[fp,h2,h3,yfl,yf9],h.put _ (.inl rfl)⟩
theorem zko{is:List Ins}:∀ {fs:List FP} {st s1 st':St},Run P is fs st st'->Eqv st s1->∃ s2,Run P is fs s1 s2/\Eqv st' s2
 | _,st,s1,_,.nil _,h=>⟨s1,.nil _,h⟩
 | _,st,s1,_,.cons orc i is f fs _ s2 _ h0 h1 h2 h3,h=>by obtain⟨s3,e1,e2,e3⟩:=zue h1 h;obtain⟨s4,r1,r2⟩:=zko h3 e3;exact⟨s4,.cons orc i is f fs _ _ _ h0 e1 (e2 ▸ h2) r1,r2⟩
theorem zpo{is:List Ins}:∀ {fs:List FP} {st s1 st':St},Run P is fs st st'->Le st s1->∃ s2,Run P is fs s1 s2/\Le st' s2
 | _,st,s1,_,.nil _,h=>⟨s1,.nil _,h⟩
 | _,st,s1,_,.cons orc i is f fs _ s2 _ h0 h1 h2 h3,h=>by obtain⟨s3,e1,e2,e3⟩:=z7a h h1;obtain⟨s4,r1,r2⟩:=zpo h3 e3;exact⟨s4,.cons orc i is f fs _ _ _ h0 e1 (e2 ▸ h2) r1,r2⟩
theorem zxm{op:IOp}{K:Option PCall->AV->St->Prop}(h:opnP P st d op K):∃ orc v s,zjs P orc/\eff orc st d op=some (v,s)/\K orc v s:=by
 unfold opnP at h;split at h
 ·obtain⟨c,h1,v,s,h2,h3⟩:=h;exact⟨some c,v,s,fun _ hh=>by cases hh;exact h1,h2,h3⟩
 ·unfold zc1 at h;split at h
  ·rename_i f caps hf;obtain⟨c,h1,v,s,h2,h3⟩:=h;exact⟨some c,v,s,fun _ hh=>by cases hh;exact h1,by simp[eff,hf];exact h2,h3⟩
  ·rename_i f caps hf;obtain⟨c,h1,v,s,h2,h3⟩:=h;exact⟨some c,v,s,fun _ hh=>by cases hh;exact h1,by simp[eff,hf];exact h2,h3⟩
  ·rename_i f u hf;obtain⟨c,h1,v,s,h2,h3⟩:=h;exact⟨some c,v,s,fun _ hh=>by cases hh;exact h1,by simp[eff,hf];exact h2,h3⟩
  ·grind
 ·obtain⟨v,s,h1,h2⟩:=ydt h;exact⟨none,v,s,fun _ hh=>(by cases hh),h1,h2⟩
theorem zqa{i:Ins}{K:St->Option PCall->AV->St->Prop}{J:St->Prop}
  (h:zje st i.guard (fun st=>opnP P st (i.dst.getD 0) i.op (K st)) J) :
  (∃ s0 orc v s,Eqv s0 st/\zjs P orc/\exec orc s0 i=some (s.put i.dst v)/\K s0 orc v s)\/(∃ s0,Eqv s0 st/\exec none s0 i=some (s0.put i.dst .skip)/\J s0):=by
 unfold zje at h;split at h
 ·rename_i hg;obtain⟨orc,v,s,p1,p2,p3⟩:=zxm h;exact .inl ⟨st,orc,v,s,Eqv.refl _,p1,by simp only[exec,hg,zdz,p2],p3⟩
 ·rename_i t b hg;split at h
  ·rename_i c hc;by_cases hcb:c=b
   ·subst hcb;obtain⟨orc,v,s,p1,p2,p3⟩:=zxm (h.1 rfl);have he:=zjh (t:=t) hc;have hget:(st.rep (some t) (.p (.bool c))).get t=.p (.bool c):=by rw[he.get];exact hc
    exact .inl ⟨_,orc,v,s,Eqv.symm he,p1,by simp only[exec,hg,hget,yf2,zdz,p2],p3⟩
   ·have hcb':c = !b:=by cases c<;>cases b<;>simp_all
    have he:=zjh (t:=t) (v:=.p (.bool !b)) (by rw[hc,hcb']);have hget:(st.rep (some t) (.p (.bool !b))).get t=.p (.bool !b):=by rw[he.get,hc,hcb']
    refine .inr ⟨_,Eqv.symm he,?_,h.2 hcb'⟩;simp only[exec,hg,hget];rw[yf0 (by cases b<;>simp)]
  ·rename_i hc;exact .inr ⟨st,Eqv.refl _,by simp only[exec,hg,hc],h⟩
  ·exact h.elim
theorem zvp{v:AV}{A B:Prop}(h:z3e v A B):(v=.p (.bool true)/\A)\/(v=.p (.bool false)/\B):=by
 unfold z3e at h;split at h
 ·rename_i t;cases t
  ·grind
  ·grind
 ·grind
theorem ze1{id:Nat}:∀ {ks:List Kt} {s:St},(match zaw id ks with|some ks'=>semX P N Q ks' .normal s|none=>Q (.exit id) s)->semX P N Q ks (.exit id) s
 | [],s,h=>h
 | .blk j::ks,s,h=>by
  simp[zaw]at h;simp[semX];by_cases hj:j=id
  ·grind
  ·rw[yf0 (fun h=>hj h.symm)];simp[hj]at h;exact ze1 h
 | .ins _ _::ks,s,h=>ze1 (ks:=ks) h
 | .insD _ _ _ _::ks,s,h=>ze1 (ks:=ks) h
 | .code _::ks,s,h=>ze1 (ks:=ks) h
theorem zc9:∀ {ks:List Kt} {s:St},Q .ret s->semX P N Q ks .ret s
 | [],s,h=>h
 | .blk j::ks,s,h=>zc9 (ks:=ks) h
 | .ins _ _::ks,s,h=>zc9 (ks:=ks) h
 | .insD _ _ _ _::ks,s,h=>zc9 (ks:=ks) h
 | .code _::ks,s,h=>zc9 (ks:=ks) h
theorem z09{is:List Ins}{dead:List (List Nat)}{ks:List Kt}(h:semX P N Q (.ins is dead::ks) .normal st):semX P N Q (.code (.reg is dead)::ks) .normal st:=by obtain⟨gs,s1,s2,r1,r2,r3⟩:=h;exact⟨.normal,s2,(Runs.reg r1).weakR r2,r3⟩
theorem zwv{is:List Ins}{pre:List (List Nat)}{dead:List (List Nat)}{ks:List Kt}(h:semX P N Q (.insD is [] pre dead::ks) .normal st):semX P N Q (.code (.regD is pre dead)::ks) .normal st:=by obtain⟨gs,s1,s2,r1,r0,r2,r3⟩:=h;exact⟨.normal,s2,(Runs.regD r1 (by simpa using r0)).weakR r2,r3⟩
theorem z08{a b:GC}{ks:List Kt}(h:semX P N Q (.code a::.code b::ks) .normal st):semX P N Q (.code (.seq a b)::ks) .normal st:=by
 obtain⟨ex,s1,r1,r2⟩:=h;cases ex with
 | normal =>
  obtain⟨ex,s2,q1,q2⟩:=r2;exact⟨ex,s2,.seq r1 q1,q2⟩
 | _=>exact⟨_,s1,.seqX r1 (by simp),r2⟩
theorem z1a{id:Nat}{b:GC}{ks:List Kt}(h:semX P N Q (.code b::.blk id::ks) .normal st):semX P N Q (.code (.blk id b)::ks) .normal st:=by
 obtain⟨ex,s,r1,r2⟩:=h;cases ex with
 | exit j =>
  simp[semX]at r2;split at r2
  ·rename_i hj;subst hj;exact⟨_,s,.blkE r1,r2⟩
  ·rename_i hj;exact⟨_,s,.blkX r1 hj,r2⟩
 | _=>exact⟨_,s,.blk r1 (by simp),r2⟩
theorem zcq:∀ (n:Nat) {ks:List Kt} {st:St},szK ks<=n->vm P N Q ks st->semX P N Q ks .normal st
 | n,[],st,hn,h=>by unfold vm at h;exact h
 | 0,k::ks,st,hn,h=>by simp only[szK]at hn;have:=Kt.sz_pos k;omega
 | n+1,.blk j::ks,st,hn,h=>by
  unfold vm at h;have hs:szK ks<=n:=by simp only[szK,Kt.sz]at hn;omega
  exact(zcq n hs h:semX P N Q ks .normal st)
 | n+1,.ins [] dead::ks,st,hn,h=>by
  unfold vm at h;exact⟨[],st,_,.nil _,Weak.refl _,zcq n (by simp only[szK,Kt.sz,yi4]at hn ⊢;omega) h⟩
 | n+1,.insD [] fs pre dead::ks,st,hn,h=>by
  unfold vm at h;exact⟨[],st,_,.nil _,by simpa using h.1,Weak.refl _,zcq n (by simp only[szK,Kt.sz,List.length_nil]at hn ⊢;omega) h.2⟩
 | n+1,.ins (i::is) dead::ks,st,hn,h=>by
  unfold vm at h;have hsz:szK (.ins is dead.tail::ks)<=n:=by simp only[szK,Kt.sz,yg2]at hn ⊢;omega
  rcases zqa (K:=fun _ _ v s=>vm P N Q (.ins is dead.tail::ks) ((s.rep i.dst v).dropI dead)) h with⟨s0,orc,v,s,e0,p1,p2,p3⟩|⟨s0,e0,p2,p3⟩
  ·obtain⟨gs,s1,s2,r1,r2,r3⟩:=zcq n hsz p3;obtain⟨t1,q1,q2⟩:=zpo r1 ((zj5 _ dead).trans (Le.of_eqv (Eqv.symm (zls s i.dst v))));obtain⟨t2,u1,u2⟩:=zko (Run.cons orc i is _ gs s0 _ t1 p1 p2 (FP.Sub.refl _) q1) e0;exact⟨_,t2,s2,u1,(zjt (Eqv.symm u2)).trans (q2.weak.trans r2),r3⟩
  ·obtain⟨gs,s1,s2,r1,r2,r3⟩:=zcq n hsz p3;obtain⟨t1,q1,q2⟩:=zpo r1 ((zj5 _ dead).trans (Le.of_eqv (Eqv.symm (zls s0 i.dst .skip))));obtain⟨t2,u1,u2⟩:=zko (Run.cons none i is _ gs s0 _ t1 (fun _ hh=>by cases hh) p2 (FP.Sub.refl _) q1) e0;exact⟨_,t2,s2,u1,(zjt (Eqv.symm u2)).trans (q2.weak.trans r2),r3⟩
 | n+1,.insD (i::is) fs pre dead::ks,st,hn,h=>by
  unfold vm at h;have hsz:∀ gs,szK (.insD is gs pre dead.tail::ks)<=n:=by intro gs;simp only[szK,Kt.sz,yg2]at hn ⊢;omega
  rcases zqa (K:=fun st c v s=>vm P N Q (.insD is (fs++[fp c st i]) pre dead.tail::ks) ((s.rep i.dst v).dropI dead)) h with⟨s0,orc,v,s,e0,p1,p2,p3⟩|⟨s0,e0,p2,p3⟩
  ·obtain⟨gs,s1,s2,r1,r0,r2,r3⟩:=zcq n (hsz _) p3;obtain⟨t1,q1,q2⟩:=zpo r1 ((zj5 _ dead).trans (Le.of_eqv (Eqv.symm (zls s i.dst v))));obtain⟨t2,u1,u2⟩:=zko (Run.cons orc i is _ gs s0 _ t1 p1 p2 (FP.Sub.refl _) q1) e0;exact⟨_,t2,s2,u1,by simpa using r0,(zjt (Eqv.symm u2)).trans (q2.weak.trans r2),r3⟩
  ·obtain⟨gs,s1,s2,r1,r0,r2,r3⟩:=zcq n (hsz _) p3;obtain⟨t1,q1,q2⟩:=zpo r1 ((zj5 _ dead).trans (Le.of_eqv (Eqv.symm (zls s0 i.dst .skip))));obtain⟨t2,u1,u2⟩:=zko (Run.cons none i is _ gs s0 _ t1 (fun _ hh=>by cases hh) p2 (FP.Sub.refl _) q1) e0;exact⟨_,t2,s2,u1,by simpa using r0,(zjt (Eqv.symm u2)).trans (q2.weak.trans r2),r3⟩
 | n+1,.code .nop::ks,st,hn,h=>by
  unfold vm at h;exact⟨.normal,st,.nop,zcq n (by simp only[szK,Kt.sz,GC.sz]at hn ⊢;omega) h⟩
 | n+1,.code (.reg is dead)::ks,st,hn,h=>by
  unfold vm at h;exact z09 (zcq n (by simp only[szK,Kt.sz,GC.sz]at hn ⊢;omega) h)
 | n+1,.code (.regD is pre dead)::ks,st,hn,h=>by
  unfold vm at h;exact zwv (zcq n (by simp only[szK,Kt.sz,GC.sz]at hn ⊢;omega) h)
 | n+1,.code (.seq a b)::ks,st,hn,h=>by
  unfold vm at h;exact z08 (zcq n (by simp only[szK,Kt.sz,GC.sz]at hn ⊢;omega) h)
 | n+1,.code (.blk id b)::ks,st,hn,h=>by
  unfold vm at h;exact z1a (zcq n (by simp only[szK,Kt.sz,GC.sz]at hn ⊢;omega) h)
 | n+1,.code (.cond c dead a b)::ks,st,hn,h=>by
  unfold vm at h;rcases zvp h with⟨e,h⟩|⟨e,h⟩
  ·obtain⟨ex,s,r1,r2⟩:=zcq n (by have:=GC.sz_pos b;simp only[szK,Kt.sz,GC.sz]at hn ⊢;omega) h;exact⟨ex,s,.condT e (r1.weakL (zhv _ _)),r2⟩
  ·obtain⟨ex,s,r1,r2⟩:=zcq n (by have:=GC.sz_pos a;simp only[szK,Kt.sz,GC.sz]at hn ⊢;omega) h;exact⟨ex,s,.condF e (r1.weakL (zhv _ _)),r2⟩
 | n+1,.code (.loop b)::ks,st,hn,h=>by
  unfold vm at h;obtain⟨ex,s,r1,r2⟩:=h;exact⟨ex,s,.loop r1,by cases ex<;>exact r2⟩
 | n+1,.code (.ext id)::ks,st,hn,h=>by
  unfold vm at h;refine⟨.exit id,st,.ext,ze1 ?_⟩;split at h
  ·rename_i ks' hk;simp only[hk];exact zcq n (by have:=zez hk;simp only[szK,Kt.sz,GC.sz]at hn ⊢;omega) h
  ·rename_i hk;simp only[hk];exact h
 | n+1,.code .ret::ks,st,hn,h=>by
  unfold vm at h;exact⟨.ret,st,.ret,zc9 h⟩
 | n+1,.code .bad::ks,st,hn,h=>by
  unfold vm at h;exact h.elim
 | n+1,.code (.scp b)::ks,st,hn,h=>by unfold vm at h;exact h.elim
 | n+1,.code (.cut b)::ks,st,hn,h=>by unfold vm at h;exact h
end
end Go.Ab
