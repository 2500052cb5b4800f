/- Lemmas for the law ComposeBuildsMadeModels, part 9. No conditions. -/
import Derived.Test.YthhdboljpgdcpaaGreatDoorAP08
set_option maxRecDepth 100000
set_option maxHeartbeats 4000000
set_option linter.all false
namespace Go.Ab
section
variable {P:Program} {N:Nat} {st s1 st':St} {d:Nat} {Q:Exit->St->Prop}
theorem NX(t:Nat)(v:AV)(n:Nat):∀ l:List (Nat × AV),look (rep l t v) n AV.undef=if t=n then v else look l n AV.undef
 | []=>by simp[rep,look]
 | (k,w)::r=>by
  have a:=NX t v n r;simp[rep];split
  .rename_i h;subst h;simp[look]
   grind
  .rename_i h;simp[look,a];split
   .grind
   .rfl
theorem KQ(a:List Nat)(n:Nat):∀ l:List (Nat × AV),look (xB a l) n AV.undef=look l n AV.undef\/look (xB a l) n AV.undef=.undef
 | []=>.inl rfl
 | (k,w)::r=>by
  have h:=KQ a n r;have b:∀ l:List (Nat × AV),a.elem n=true->look (xB a l) n AV.undef=.undef:=by
   intro l i
   induction l with
   | nil=>rfl
   | cons q l h =>
    simp[xB];split
    .omega
    .rename_i f;simp[look];split
     .grind
     .omega
  simp[xB];split
  .rename_i f;simp[look];split
   .grind
   .omega
  .simp[look];split
   .simp
   .omega
theorem Ev(st:St)(t:Option Nat)(v:AV):gT (st.put t v) (st.rep t v):=by
 cases t with
 | none=>exact gT.refl _
 | some t =>
  refine⟨λn=>?_,λn=>rfl⟩;rw[xb];show look (rep st.sl t v) n AV.undef=_;rw[NX];simp[St.get]
def QI{t:Nat}{v:AV}(h:st.get t=v):gT st (st.rep (some t) v):=by
 refine gT.trans (t:=st.put (some t) v) ⟨λn=>?_,λn=>rfl⟩ (Ev st (some t) v);rw[xb];split
 .grind
 .rfl
def GY{s t:St}(h:gT s t):aA s t:=λ_ Z _ _ a=>⟨Z,a.eqv h,.dR (sC h.site _)⟩
def Hl(st:St)(b:List Nat):aA st (st.drop b):=λK Z w a f=>by
 have i:cO Z st Z (st.drop b):=sC (s:=st) (t:=st.drop b) (λ_=>rfl) Z;refine⟨Z,⟨λt=>?_,f.defers,f.size,f.heap.gQ λ_=>rfl⟩,.dR i⟩;obtain h|h:=KQ b t st.sl
 .show aM Z _ (look (xB b st.sl) t AV.undef) _;rw[h];exact aM.mono i (f.aR t)
 .show aM Z _ (look (xB b st.sl) t AV.undef) _;rw[h];exact .undef _
structure Le (s t:St):Prop where
 get:∀ n,s.get n=t.get n\/s.get n=.undef
 site:∀ n,t.site n=s.site n
def Le.refl(s:St):Le s s:=⟨λ_=>.inl rfl,λ_=>rfl⟩
def Le.trans{s t u:St}(h:Le s t)(k:Le t u):Le s u :=
 ⟨λn=>(h.get n).elim (λe=>(k.get n).elim (λa=>.inl (e.trans a)) (λa=>.inr (e.trans a))) .inr,λn=>(k.site n).trans (h.site n)⟩
def Le.rX{s t:St}(h:gT s t):Le s t:=⟨λn=>.inl (h.get n).symm,h.site⟩
def Le.eg{s t:St}(h:Le s t):aA t s:=λK Z w a hs=>by
 have hz:cO Z t Z s:=sC (s:=t) (t:=s) (λn=>(h.site n).symm) Z;refine⟨Z,⟨λn=>?_,hs.defers,hs.size,hs.heap.gQ λn=>(h.site n).symm⟩,.dR hz⟩;obtain e|e:=h.get n
 .rw[e];exact aM.mono hz (hs.aR n)
 .rw[e];exact .undef _
def Zw(st:St)(a:List Nat):Le (st.drop a) st:=⟨λn=>KQ a n st.sl,λ_=>rfl⟩
theorem G0(st:St)(b:List (List Nat)):Le (st.eK b) st:=by
 match b with
 | []=>exact Le.refl _
 | []::_=>exact Le.refl _
 | (a::l)::_=>exact Zw st (a::l)
def Le.put{s t:St}(h:Le s t)(d:Option Nat){v w:AV}(a:v=w\/v=.undef):Le (s.put d v) (t.put d w):=by
 refine⟨λn=>?_,λn=>by rw[pM,pM];exact h.site n⟩;rw[xb,xb];split
 .omega
 .exact h.get n
theorem Le.ev{s t:St}(h:Le s t)(x:bL):s.ev x=t.ev x\/s.ev x=.undef:=by
 cases x with
 | t n=>exact h.get n
 | c v=>exact .inl rfl
theorem QV:∀ {ps:List (Nat × Nat × AV)} {cells cs:List AV},zU cells ps=some cs->∀ p∈ps,p.2.2 ≠ .undef
 | [],_,_,_,p,hp=>by cases hp
 | (b,f,v)::r,cells,cs,h,p,hp=>by
  simp only[zU]at h;split at h
  .rename_i a;obtain rfl|hp:=bY.1 hp
   .intro e;simp only at e;rw[e]at a;simp[AV.sz]at a;omega
   .exact QV h p hp
  .grind
theorem QU:∀ {sz:Nat} {ps:List (Nat × AV)} {es r:List AV},0<sz->zP es sz ps=some r->∀ p∈ps,p.2 ≠ .undef
 | _,[],_,_,_,_,p,hp=>by cases hp
 | sz,(i,v)::ps,es,r,b,h,p,hp=>by
  simp only[zP]at h;split at h
  .rename_i a;obtain rfl|hp:=bY.1 hp
   .intro e;simp only at e;rw[e]at a;simp[AV.sz]at a;omega
   .exact QU b h p hp
  .grind
def yge(st:St)(n:Nat):bE st n .undef=none:=by cases n<;>rfl
theorem Nr{st:St}:∀ {l:List AV} {ps:List PV},l.mapM (bE st aZ)=some ps->∀ v∈l,v ≠ .undef
 | [],_,_,v,a=>by cases a
 | u::l,ps,h,v,a=>by
  obtain⟨y,i,b,f,_⟩:=DA h;obtain rfl|a:=bY.1 a
  .intro e;rw[e]at b;cases b
  .exact Nr f v a
theorem Ly{orc:Option bI}{f:FuncId}{vs:List AV}{v:AV}{s:St}(h:xn orc st d f vs=some (v,s)):∀ v∈vs,v ≠ .undef:=by
 obtain⟨c,_,_,a,_⟩:=Fk h;cases b:Av c.res with
 | true =>
  unfold Ay at a;cases i:c.res with
  | oa m n l j=>rw[i]at a;intro v k e;subst e;exact a.2.1 k
  | _=>rw[i]at b;cases b
 | false =>
  rw[Fu b]at a;exact Nr a
def PF{mx:Bool}:∀ {l:List AV} {r:PV},xE mx l=some r->∀ v∈l,v ≠ .undef:=by
 have m:∀ (f:PV->AV->Option PV) (k:∀ a,f a .undef=none) (l:List AV) (a r:PV),l.foldlM f a=some r->∀ v∈l,v ≠ .undef:=by
  intro f k l
  induction l with
  | nil=>intro a r _ v i;cases i
  | cons x l n =>
   intro a r h v i;simp at h;cases j:f a x with
   | none=>rw[j]at h;cases h
   | some b =>
    rw[j]at h;obtain rfl|i:=bY.1 i
    .grind
    .grind
 intro l r h;unfold xE at h;split at h
 .grind
 .grind
theorem Dv{o:Option bL}{n m:Nat}(h:sN st o n=some m):∀ x∈fX o,st.ev x ≠ .undef:=by
 intro x a;cases o with
 | none=>cases a
 | some y =>
  simp[fX]at a;subst a;intro e;simp only[sN,e]at h;cases h
def zV{v:AV}{n:Nat}(h:vS v=some n):v ≠ .undef:=by intro e;rw[e]at h;cases h
def Ze{orc:Option bI}{w:c7}{v:AV}{s:St}(h:bX orc st d w=some (v,s)):(∃ x,w=.mv x)\/(∃ c a b,w=.pick c a b)\/∀ x∈w.bZ,st.ev x ≠ .undef:=by
 cases w<;>simp only[bX]at h<;>simp only[c7.bZ]
 case mv x=>exact .inl ⟨x,rfl⟩
 case pick c a b=>exact .inr (.inl ⟨c,a,b,rfl⟩)
 all_goals refine .inr (.inr λz hz=>?_)
 case alloc|raw|bad=>cases hz
 case box u x =>
  simp only[jF]at hz;subst hz;split at h
  .rename_i t;intro e;rw[e]at t;simp[AV.sz]at t;omega
  .cases h
 case build zero I =>
  split at h
  .rename_i L t;obtain⟨p,B,rfl⟩:=cD.1 hz;exact QV t (p.1,p.2.1,st.ev p.2.2) (cD.2 ⟨p,B,rfl⟩)
  .cases h
 case b0 u zero n I =>
  split at h
  .rename_i G;split at h
   .rename_i F t;obtain⟨p,B,rfl⟩:=cD.1 hz;have:=QU G.2.1 t (p.1,(st.ev p.2).fL) (cD.2 ⟨p,B,rfl⟩);intro e;exact this (by simp only[e,AV.fL])
   .cases h
  .cases h
 case load|bT|not|neg|tA|conv|iK|extract|len|iI|cap|clear =>
  simp only[jF]at hz;subst hz;intro e;simp only[e]at h;cases h
 case field C u E x =>
  simp only[jF]at hz;subst hz;intro e;simp only[e,AV.iZ]at h;cases h
 case eZ u z a x =>
  simp only[bY,mN,or_false]at hz;split at h
  .rename_i j o;obtain rfl|rfl:=hz
   .rw[j];intro e;cases e
   .exact zV o
  .cases h
 case lW J z x k =>
  simp only[bY,mN,or_false]at hz;split at h
  .rename_i j o;obtain rfl|rfl:=hz
   .rw[j];intro e;cases e
   .rw[o];intro e;cases e
  .cases h
 case jW J z x k =>
  simp only[bY,mN,or_false]at hz;split at h
  .rename_i j o;obtain rfl|rfl:=hz
   .rw[j];intro e;cases e
   .rw[o];intro e;cases e
  .cases h
 case qG x i =>
  simp only[bY,mN,or_false]at hz;split at h
  .rename_i j o;obtain rfl|rfl:=hz
   .rw[j];intro e;cases e
   .exact zV o
  .cases h
 case store u a x =>
  simp only[bY,mN,or_false]at hz;split at h
  .rename_i H;split at h
   .split at h
    .split at h
     .rename_i t;obtain rfl|rfl:=hz
      .rw[H];intro e;cases e
      .intro e;rw[e]at t;simp[AV.sz]at t;omega
     .cases h
    .cases h
   .cases h
  .cases h
 case dH w x y =>
  simp only[bY,mN,or_false]at hz;split at h
  .rename_i r;unfold dH at r;split at r
   .rename_i j o;obtain rfl|rfl:=hz
    .rw[j];intro e;cases e
    .rw[o];intro e;cases e
   .cases r
  .cases h
 case gD w x y =>
  simp only[bY,mN,or_false]at hz;split at h
  .rename_i r;unfold gD at r;split at r
   .rename_i j o;obtain rfl|rfl:=hz
    .rw[j];intro e;cases e
    .rw[o];intro e;cases e
   .cases r
  .cases h
 case jZ O w x y =>
  simp only[bY,mN,or_false]at hz;split at h
  .rename_i r;unfold jZ at r;split at r
   .rename_i j o;obtain rfl|rfl:=hz
    .rw[j];intro e;cases e
    .rw[o];intro e;cases e
   .cases r
  .cases h
 case jK f D =>
  split at h
  .rename_i t;have:=kR.1 t (st.ev z) (cD.2 ⟨z,hz,rfl⟩);intro e;rw[e]at this;cases this
  .cases h
 case cJ u zero l c =>
  simp only[bY,mN,or_false]at hz;split at h
  .rename_i j o;obtain rfl|rfl:=hz
   .exact zV j
   .exact zV o
  .cases h
 case slice u x R M =>
  simp only[bY,dT]at hz;split at h
  .rename_i l F j o;split at h
   .rename_i k A;obtain rfl|hz|hz:=hz
    .rw[o];intro e;cases e
    .exact Dv j z hz
    .exact Dv A z hz
   .cases h
  .rename_i l S g C len j o;split at h
   .rename_i k A;obtain rfl|hz|hz:=hz
    .rw[o];intro e;cases e
    .exact Dv j z hz
    .exact Dv A z hz
   .cases h
  .rename_i l j o;split at h
   .rename_i k A;obtain rfl|hz|hz:=hz
    .rw[o];intro e;cases e
    .exact Dv j z hz
    .exact Dv A z hz
   .cases h
  .cases h
 case cE u x i =>
  simp only[bY,mN,or_false]at hz;split at h
  .rename_i j o;obtain rfl|rfl:=hz
   .rw[o];intro e;cases e
   .exact zV j
  .rename_i j o;obtain rfl|rfl:=hz
   .rw[o];intro e;cases e
   .exact zV j
  .cases h
 case cK m u x i =>
  simp only[bY,mN,or_false]at hz;split at h
  .rename_i j o;obtain rfl|rfl:=hz
   .rw[o];intro e;cases e
   .exact zV j
  .rename_i j o;obtain rfl|rfl:=hz
   .rw[o];intro e;cases e
   .exact zV j
  .cases h
 case idx m u E x i =>
  simp only[bY,mN,or_false]at hz;split at h
  .rename_i j;obtain rfl|rfl:=hz
   .intro e;simp only[e,AV.iZ]at h;split at h<;>cases h
   .exact zV j
  .cases h
 case append u a x =>
  simp only[bY,mN,or_false]at hz;split at h
  .rename_i j;obtain rfl|rfl:=hz
   .intro e;simp only[e]at h;split at h<;>cases h
   .intro e;rw[e]at j;cases j
  .cases h
 case min K =>
  split at h
  .rename_i j;exact PF j _ (cD.2 ⟨z,hz,rfl⟩)
  .cases h
 case max K =>
  split at h
  .rename_i j;exact PF j _ (cD.2 ⟨z,hz,rfl⟩)
  .cases h
 case call f args=>exact Ly h _ (cD.2 ⟨z,hz,rfl⟩)
 case gS x args =>
  simp only[bY]at hz;split at h
  .rename_i j;obtain rfl|hz:=hz
   .rw[j];intro e;cases e
   .exact Ly h _ (dT.2 (.inl (cD.2 ⟨z,hz,rfl⟩)))
  .rename_i j;obtain rfl|hz:=hz
   .rw[j];intro e;cases e
   .exact Ly h _ (dT.2 (.inl (cD.2 ⟨z,hz,rfl⟩)))
  .cases h
def Zy{s t s1 a:St}{R W:List Nat}(h:Le s t)(e:pE s s1 t a R W)(d:Option Nat)(v:AV):Le (s1.put d v) (a.put d v):=by
 obtain⟨p,f,i,j,k,r⟩:=e;have o:Le s1 a:=by
  refine⟨λn=>?_,λn=>?_⟩
  .have l:s1.get n=s.get n:=y7 k n;have m:a.get n=t.get n:=y7 j n;rw[l,m];exact h.get n
  .by_cases b:n∈W
   .grind
   .rw[f n b,i n b];exact h.site n
 exact o.put d (.inl rfl)
theorem Zm{orc:Option bI}{i:Ins}{s B t:St}(h:Le s t)(l:exec orc s i=some B):∃ D,exec orc t i=some D/\fp orc t i=fp orc s i/\Le B D:=by
 have z:(∃ v s1,bX orc s (i.dst.getD 0) i.op=some (v,s1)/\B=s1.put i.dst v/\(∀ orc,exec orc t i=tN orc t i)/\runs t i=runs s i) \/
   (B=s.put i.dst .skip/\exec orc t i=some (t.put i.dst .skip)/\runs t i=false/\runs s i=false):=by
  unfold exec at l;split at l
  .rename_i o;unfold tN at l;split at l
   .rename_i v s1 j;cases l;exact .inl ⟨v,s1,j,rfl,λorc=>by simp only[exec,o],by simp only[runs,o]⟩
   .grind
  .rename_i g b o;split at l
   .rename_i c r;have k:t.get g=.p (.bool c):=by
     obtain e|e:=h.get g
     .grind
     .grind
    split at l
    .rename_i m;unfold tN at l;split at l
     .rename_i v s1 j;cases l;exact .inl ⟨v,s1,j,rfl,λorc=>by simp only[exec,o,k,m,cB],by simp only[runs,o,k,r]⟩
     .grind
    .rename_i m;cases l;exact .inr ⟨rfl,by simp only[exec,o,k,m,if_false],by simp only[runs,o,k];simpa using m,by simp only[runs,o,r];simpa using m⟩
   .rename_i r;have k:t.get g=.skip:=by
     obtain e|e:=h.get g
     .rw[<- e,r]
     .rw[r]at e;cases e
    cases l;exact .inr ⟨rfl,by simp only[exec,o,k],by simp only[runs,o,k],by simp only[runs,o,r]⟩
   .cases l
 obtain⟨v,s1,j,rfl,w,A⟩|⟨rfl,j,G,H⟩:=z
 .obtain⟨x,f⟩|⟨c,a,b,f⟩|hd:=Ze j
  .rw[f]at j;simp only[bX,cF,dA]at j;obtain⟨rfl,rfl⟩:=j;refine⟨t.put i.dst (t.ev x),by rw[w];simp only[tN,f,bX],by simp only[fp,A,f,eu,gV],h.put _ (h.ev x)⟩
  .rw[f]at j;simp only[bX]at j;have r:∀ q,s.ev c=.p (.bool q)->t.ev c=.p (.bool q):=λq u=>by
    obtain e|e:=h.ev c
    .rw[<- e,u]
    .rw[u]at e;cases e
   split at j
   .rename_i u;cases j;exact⟨t.put i.dst (t.ev a),by rw[w];simp only[tN,f,bX,r _ u],by simp only[fp,A,f,eu,gV],h.put _ (h.ev a)⟩
   .rename_i u;cases j;exact⟨t.put i.dst (t.ev b),by rw[w];simp only[tN,f,bX,r _ u],by simp only[fp,A,f,eu,gV],h.put _ (h.ev b)⟩
   .cases j
  .have y:∀ x∈i.op.bZ,t.ev x=s.ev x:=λx w=>(h.ev x).elim (λe=>e.symm) (λe=>absurd e (hd x w));obtain⟨I,E,F⟩:=KK (orc:=orc) j y (λn _=>h.site n);have C:=Py (orc:=orc) (d:=i.dst.getD 0) y (λn _=>h.site n);refine⟨I.put i.dst v,by rw[w];simp only[tN,E],by simp only[fp,A,C.1,C.2],?_⟩;exact Zy h F i.dst v
 .exact⟨_,j,by simp only[fp,G,H,gJ,fQ],h.put _ (.inl rfl)⟩
theorem ED{b:List Ins}:∀ {a:List FP} {st s1 st':St},rG P b a st st'->gT st s1->∃ k,rG P b a s1 k/\gT st' k
 | _,st,s1,_,.nil _,h=>⟨s1,.nil _,h⟩
 | _,st,s1,_,.cons j i b f a _ k _ o p r s,h=>by obtain⟨x,l,m,n⟩:=Si p h;obtain⟨w,t,u⟩:=ED s n;exact⟨w,.cons j i b f a _ _ _ o l (m ▸ r) t,u⟩
theorem En{b:List Ins}:∀ {a:List FP} {st s1 st':St},rG P b a st st'->Le st s1->∃ k,rG P b a s1 k/\Le st' k
 | _,st,s1,_,.nil _,h=>⟨s1,.nil _,h⟩
 | _,st,s1,_,.cons j i b f a _ k _ o p r s,h=>by obtain⟨x,l,m,n⟩:=Zm h p;obtain⟨w,t,u⟩:=En s n;exact⟨w,.cons j i b f a _ _ _ o l (m ▸ r) t,u⟩
def RK{m:c7}{K:Option bI->AV->St->Prop}(h:oW P st d m K):∃ orc v s,wU P orc/\bX orc st d m=some (v,s)/\K orc v s:=by
 unfold oW at h;split at h
 .obtain⟨c,a,v,s,b,k⟩:=h;exact⟨some c,v,s,λ_ i=>by cases i;exact a,b,k⟩
 .unfold Eg at h;split at h
  .rename_i f j l;obtain⟨c,a,v,s,b,k⟩:=h;exact⟨some c,v,s,λ_ i=>by cases i;exact a,by simp[bX,l];exact b,k⟩
  .rename_i f j l;obtain⟨c,a,v,s,b,k⟩:=h;exact⟨some c,v,s,λ_ i=>by cases i;exact a,by simp[bX,l];exact b,k⟩
  .grind
 .obtain⟨v,s,a,b⟩:=Yb h;exact⟨none,v,s,λ_ i=>(by cases i),a,b⟩
def OB{i:Ins}{K:St->Option bI->AV->St->Prop}{J:St->Prop}
  (h:Az st i.guard (λst=>oW P st (i.dst.getD 0) i.op (K st)) J) :
  (∃ s0 orc v s,gT s0 st/\wU P orc/\exec orc s0 i=some (s.put i.dst v)/\K s0 orc v s)\/(∃ s0,gT s0 st/\exec none s0 i=some (s0.put i.dst .skip)/\J s0):=by
 unfold Az at h;split at h
 .rename_i l;obtain⟨orc,v,s,n,o,r⟩:=RK h;exact .inl ⟨st,orc,v,s,gT.refl _,n,by simp only[exec,l,tN,o],r⟩
 .rename_i t b l;split at h
  .rename_i c j;by_cases m:c=b
   .subst m;obtain⟨orc,v,s,n,o,r⟩:=RK (h.1 rfl);have k:=QI (t:=t) j;have f:(st.rep (some t) (.p (.bool c))).get t=.p (.bool c):=by rw[k.get];exact j
    exact .inl ⟨_,orc,v,s,gT.symm k,n,by simp only[exec,l,f,cB,tN,o],r⟩
   .have a:c = !b:=by cases c<;>cases b<;>simp_all
    have k:=QI (t:=t) (v:=.p (.bool !b)) (by rw[j,a]);have f:(st.rep (some t) (.p (.bool !b))).get t=.p (.bool !b):=by rw[k.get,j,a]
    refine .inr ⟨_,gT.symm k,?_,h.2 a⟩;simp only[exec,l,f];rw[aY (by cases b<;>simp)]
  .rename_i j;exact .inr ⟨st,gT.refl _,by simp only[exec,l,j],h⟩
  .exact h.elim
def Xq{v:AV}{A B:Prop}(h:Iy v A B):(v=.p (.bool true)/\A)\/(v=.p (.bool false)/\B):=by
 unfold Iy at h;split at h
 .rename_i t;cases t
  .grind
  .grind
 .grind
theorem Dl{id:Nat}:∀ {ks:List Kt} {s:St},(match fS id ks with|some a=>eM P N Q a .normal s|none=>Q (.exit id) s)->eM P N Q ks (.exit id) s
 | [],s,h=>h
 | .bU j::ks,s,h=>by
  simp[fS]at h;simp[eM];by_cases b:j=id
  .grind
  .rw[aY (λh=>b h.symm)];simp[b]at h;exact Dl h
 | .ins _ _::ks,s,h=>Dl (ks:=ks) h
 | .fJ _ _ _ _::ks,s,h=>Dl (ks:=ks) h
 | .code _::ks,s,h=>Dl (ks:=ks) h
theorem yz:∀ {ks:List Kt} {s:St},Q .ret s->eM P N Q ks .ret s
 | [],s,h=>h
 | .bU j::ks,s,h=>yz (ks:=ks) h
 | .ins _ _::ks,s,h=>yz (ks:=ks) h
 | .fJ _ _ _ _::ks,s,h=>yz (ks:=ks) h
 | .code _::ks,s,h=>yz (ks:=ks) h
theorem Vs{b:List Ins}{a:List (List Nat)}{ks:List Kt}(h:eM P N Q (.ins b a::ks) .normal st):eM P N Q (.code (.cY b a)::ks) .normal st:=by obtain⟨l,s1,k,f,i,j⟩:=h;exact⟨.normal,k,(cT.cY f).sR i,j⟩
theorem WY{b:List Ins}{pre:List (List Nat)}{a:List (List Nat)}{ks:List Kt}(h:eM P N Q (.fJ b [] pre a::ks) .normal st):eM P N Q (.code (.fM b pre a)::ks) .normal st:=by obtain⟨m,s1,l,i,f,j,k⟩:=h;exact⟨.normal,l,(cT.fM i (by simpa using f)).sR j,k⟩
theorem Vt{a b:GC}{ks:List Kt}(h:eM P N Q (.code a::.code b::ks) .normal st):eM P N Q (.code (.seq a b)::ks) .normal st:=by
 obtain⟨f,s1,i,j⟩:=h;cases f with
 | normal =>
  obtain⟨f,m,k,l⟩:=j;exact⟨f,m,.seq i k,l⟩
 | _=>exact⟨_,s1,.MA i (by simp),j⟩
theorem Vr{id:Nat}{b:GC}{ks:List Kt}(h:eM P N Q (.code b::.bU id::ks) .normal st):eM P N Q (.code (.bU id b)::ks) .normal st:=by
 obtain⟨k,s,i,a⟩:=h;cases k with
 | exit j =>
  simp[eM]at a;split at a
  .rename_i f;subst f;exact⟨_,s,.Nl i,a⟩
  .rename_i f;exact⟨_,s,.Nk i f,a⟩
 | _=>exact⟨_,s,.bU i (by simp),a⟩
theorem lG:∀ (n:Nat) {ks:List Kt} {st:St},mV ks<=n->vm P N Q ks st->eM P N Q ks .normal st
 | n,[],st,l,h=>by unfold vm at h;exact h
 | 0,k::ks,st,l,h=>by simp only[mV]at l;have:=Kt.eA k;omega
 | n+1,.bU j::ks,st,l,h=>by
  unfold vm at h;have S:mV ks<=n:=by simp only[mV,Kt.sz]at l;omega
  exact(lG n S h:eM P N Q ks .normal st)
 | n+1,.ins [] f::ks,st,l,h=>by
  unfold vm at h;exact⟨[],st,_,.nil _,aA.refl _,lG n (by simp only[mV,Kt.sz,List.length_nil]at l ⊢;omega) h⟩
 | n+1,.fJ [] R pre f::ks,st,l,h=>by
  unfold vm at h;exact⟨[],st,_,.nil _,by simpa using h.1,aA.refl _,lG n (by simp only[mV,Kt.sz,List.length_nil]at l ⊢;omega) h.2⟩
 | n+1,.ins (i::r) f::ks,st,l,h=>by
  unfold vm at h;have p:mV (.ins r f.tail::ks)<=n:=by simp only[mV,Kt.sz,pQ]at l ⊢;omega
  obtain⟨u,x,v,s,w,M,y,z⟩|⟨u,w,y,z⟩:=OB (K:=λ_ _ v s=>vm P N Q (.ins r f.tail::ks) ((s.rep i.dst v).eK f)) h
  .obtain⟨t,s1,D,m,o,C⟩:=lG n p z;obtain⟨E,A,B⟩:=En m ((G0 _ f).trans (Le.rX (gT.symm (Ev s i.dst v))));obtain⟨F,G,H⟩:=ED (rG.cons x i r _ t u _ E M y (FP.Sub.refl _) A) w;exact⟨_,F,D,G,(GY (gT.symm H)).trans (B.eg.trans o),C⟩
  .obtain⟨t,s1,D,m,o,C⟩:=lG n p z;obtain⟨E,A,B⟩:=En m ((G0 _ f).trans (Le.rX (gT.symm (Ev u i.dst .skip))));obtain⟨F,G,H⟩:=ED (rG.cons none i r _ t u _ E (λ_ L=>by cases L) y (FP.Sub.refl _) A) w;exact⟨_,F,D,G,(GY (gT.symm H)).trans (B.eg.trans o),C⟩
 | n+1,.fJ (i::r) R pre f::ks,st,l,h=>by
  unfold vm at h;have p:∀ t,mV (.fJ r t pre f.tail::ks)<=n:=by intro t;simp only[mV,Kt.sz,pQ]at l ⊢;omega
  obtain⟨u,x,v,s,w,M,y,z⟩|⟨u,w,y,z⟩:=OB (K:=λst c v s=>vm P N Q (.fJ r (R++[fp c st i]) pre f.tail::ks) ((s.rep i.dst v).eK f)) h
  .obtain⟨t,s1,D,m,O,o,C⟩:=lG n (p _) z;obtain⟨E,A,B⟩:=En m ((G0 _ f).trans (Le.rX (gT.symm (Ev s i.dst v))));obtain⟨F,G,H⟩:=ED (rG.cons x i r _ t u _ E M y (FP.Sub.refl _) A) w;exact⟨_,F,D,G,by simpa using O,(GY (gT.symm H)).trans (B.eg.trans o),C⟩
  .obtain⟨t,s1,D,m,O,o,C⟩:=lG n (p _) z;obtain⟨E,A,B⟩:=En m ((G0 _ f).trans (Le.rX (gT.symm (Ev u i.dst .skip))));obtain⟨F,G,H⟩:=ED (rG.cons none i r _ t u _ E (λ_ L=>by cases L) y (FP.Sub.refl _) A) w;exact⟨_,F,D,G,by simpa using O,(GY (gT.symm H)).trans (B.eg.trans o),C⟩
 | n+1,.code .iX::ks,st,l,h=>by
  unfold vm at h;exact⟨.normal,st,.iX,lG n (by simp only[mV,Kt.sz,GC.sz]at l ⊢;omega) h⟩
 | n+1,.code (.cY r f)::ks,st,l,h=>by
  unfold vm at h;exact Vs (lG n (by simp only[mV,Kt.sz,GC.sz]at l ⊢;omega) h)
 | n+1,.code (.fM r pre f)::ks,st,l,h=>by
  unfold vm at h;exact WY (lG n (by simp only[mV,Kt.sz,GC.sz]at l ⊢;omega) h)
 | n+1,.code (.seq a b)::ks,st,l,h=>by
  unfold vm at h;exact Vt (lG n (by simp only[mV,Kt.sz,GC.sz]at l ⊢;omega) h)
 | n+1,.code (.bU id b)::ks,st,l,h=>by
  unfold vm at h;exact Vr (lG n (by simp only[mV,Kt.sz,GC.sz]at l ⊢;omega) h)
 | n+1,.code (.cond c f a b)::ks,st,l,h=>by
  unfold vm at h;obtain⟨e,h⟩|⟨e,h⟩:=Xq h
  .obtain⟨I,s,m,o⟩:=lG n (by have:=GC.eA b;simp only[mV,Kt.sz,GC.sz]at l ⊢;omega) h;exact⟨I,s,.Gc e (m.nH (Hl _ _)),o⟩
  .obtain⟨I,s,m,o⟩:=lG n (by have:=GC.eA a;simp only[mV,Kt.sz,GC.sz]at l ⊢;omega) h;exact⟨I,s,.Gd e (m.nH (Hl _ _)),o⟩
 | n+1,.code (.loop b)::ks,st,l,h=>by
  unfold vm at h;obtain⟨I,s,m,o⟩:=h;exact⟨I,s,.loop m,by cases I<;>exact o⟩
 | n+1,.code (.ext id)::ks,st,l,h=>by
  unfold vm at h;refine⟨.exit id,st,.ext,Dl ?_⟩;split at h
  .rename_i U J;simp only[J];exact lG n (by have:=Dq J;simp only[mV,Kt.sz,GC.sz]at l ⊢;omega) h
  .rename_i J;simp only[J];exact h
 | n+1,.code .ret::ks,st,l,h=>by
  unfold vm at h;exact⟨.ret,st,.ret,yz h⟩
 | n+1,.code .bad::ks,st,l,h=>by
  unfold vm at h;exact h.elim
 | n+1,.code (.Cm b)::ks,st,l,h=>by unfold vm at h;exact h.elim
 | n+1,.code (.cut b)::ks,st,l,h=>by unfold vm at h;exact h
end
end Go.Ab
