/- Lemmas for the law ProjectApplies, part 2. No conditions. -/
import Derived.Test.YthhdboljpgdcpaaGreatDoorCP01
set_option maxRecDepth 100000
set_option maxHeartbeats 4000000
set_option linter.all false
namespace Go.Ab
section
variable {P:Program} {N:Nat} {st s1 st':St} {d:Nat} {Q:Exit->St->Prop}
theorem Tx(t:Nat)(v:AV)(n:Nat):∀ l:List (Nat × AV),look (rep l t v) n AV.undef=if t=n then v else look l n AV.undef
 | []=>by simp[rep,look]
 | (k,w)::r=>by
  have a:=Tx t v n r;simp[rep];split
  .rename_i h;subst h;simp[look]
   grind
  .rename_i h;simp[look,a];split
   .grind
   .rfl
theorem Mi(a:List Nat)(n:Nat):∀ l:List (Nat × AV),look (yc a l) n AV.undef=look l n AV.undef\/look (yc a l) n AV.undef=.undef
 | []=>.inl rfl
 | (k,w)::r=>by
  have h:=Mi a n r;have b:∀ l:List (Nat × AV),a.elem n=true->look (yc a l) n AV.undef=.undef:=by
   intro l i
   induction l with
   | nil=>rfl
   | cons q l h =>
    simp[yc];split
    .omega
    .rename_i f;simp[look];split
     .grind
     .omega
  simp[yc];split
  .rename_i f;simp[look];split
   .grind
   .omega
  .simp[look];split
   .simp
   .omega
theorem Fy(st:St)(t:Option Nat)(v:AV):iw (st.put t v) (st.rep t v):=by
 cases t with
 | none=>exact iw.refl _
 | some t =>
  refine⟨λn=>?_,λn=>rfl⟩;rw[xM];show look (rep st.sl t v) n AV.undef=_;rw[Tx];simp[St.get]
def Rv{t:Nat}{v:AV}(h:st.get t=v):iw st (st.rep (some t) v):=by
 refine iw.trans (t:=st.put (some t) v) ⟨λn=>?_,λn=>rfl⟩ (Fy st (some t) v);rw[xM];split
 .grind
 .rfl
def Ij{s t:St}(h:iw s t):aA s t:=λ_ Z _ _ a=>⟨Z,a.eqv h,.dW (sC h.site _)⟩
def II(st:St)(b:List Nat):aA st (st.drop b):=λK Z w a f=>by
 have i:cP Z st Z (st.drop b):=sC (s:=st) (t:=st.drop b) (λ_=>rfl) Z;refine⟨Z,⟨λt=>?_,f.defers,f.size,f.heap.hJ λ_=>rfl⟩,.dW i⟩;obtain h|h:=Mi b t st.sl
 .show aQ Z _ (look (yc b st.sl) t AV.undef) _;rw[h];exact aQ.mono i (f.aY t)
 .show aQ Z _ (look (yc b st.sl) t AV.undef) _;rw[h];exact .undef _
structure Le (s t:St):Prop where
 get:∀ n,s.get n=t.get n\/s.get n=.undef
 site:∀ n,t.site n=s.site n
def Le.refl(s:St):Le s s:=⟨λ_=>.inl rfl,λ_=>rfl⟩
def Le.trans{s t u:St}(h:Le s t)(k:Le t u):Le s u :=
 ⟨λn=>(h.get n).elim (λe=>(k.get n).elim (λa=>.inl (e.trans a)) (λa=>.inr (e.trans a))) .inr,λn=>(k.site n).trans (h.site n)⟩
def Le.rW{s t:St}(h:iw s t):Le s t:=⟨λn=>.inl (h.get n).symm,h.site⟩
def Le.eE{s t:St}(h:Le s t):aA t s:=λK Z w a hs=>by
 have hz:cP Z t Z s:=sC (s:=t) (t:=s) (λn=>(h.site n).symm) Z;refine⟨Z,⟨λn=>?_,hs.defers,hs.size,hs.heap.hJ λn=>(h.site n).symm⟩,.dW hz⟩;obtain e|e:=h.get n
 .rw[e];exact aQ.mono hz (hs.aY n)
 .rw[e];exact .undef _
def ygc(st:St)(a:List Nat):Le (st.drop a) st:=⟨λn=>Mi a n st.sl,λ_=>rfl⟩
theorem H'(st:St)(b:List (List Nat)):Le (st.eR b) st:=by
 match b with
 | []=>exact Le.refl _
 | []::_=>exact Le.refl _
 | (a::l)::_=>exact ygc st (a::l)
def Le.put{s t:St}(h:Le s t)(d:Option Nat){v w:AV}(a:v=w\/v=.undef):Le (s.put d v) (t.put d w):=by
 refine⟨λn=>?_,λn=>by rw[pT,pT];exact h.site n⟩;rw[xM,xM];split
 .omega
 .exact h.get n
theorem Le.ev{s t:St}(h:Le s t)(x:bP):s.ev x=t.ev x\/s.ev x=.undef:=by
 cases x with
 | t n=>exact h.get n
 | c v=>exact .inl rfl
theorem RJ:∀ {ps:List (Nat × Nat × AV)} {cells cs:List AV},A5 cells ps=some cs->∀ p∈ps,p.2.2 ≠ .undef
 | [],_,_,_,p,hp=>by cases hp
 | (b,f,v)::r,cells,cs,h,p,hp=>by
  simp only[A5]at h;split at h
  .rename_i a;obtain rfl|hp:=cI.1 hp
   .intro e;simp only at e;rw[e]at a;simp[AV.sz]at a;omega
   .exact RJ h p hp
  .grind
theorem RI:∀ {sz:Nat} {ps:List (Nat × AV)} {es r:List AV},0<sz->A4 es sz ps=some r->∀ p∈ps,p.2 ≠ .undef
 | _,[],_,_,_,_,p,hp=>by cases hp
 | sz,(i,v)::ps,es,r,b,h,p,hp=>by
  simp only[A4]at h;split at h
  .rename_i a;obtain rfl|hp:=cI.1 hp
   .intro e;simp only at e;rw[e]at a;simp[AV.sz]at a;omega
   .exact RI b h p hp
  .grind
def YL(st:St)(n:Nat):bH st n .undef=none:=by cases n<;>rfl
theorem Tz{st:St}:∀ {l:List AV} {ps:List PV},l.mapM (bH st bF)=some ps->∀ v∈l,v ≠ .undef
 | [],_,_,v,a=>by cases a
 | u::l,ps,h,v,a=>by
  obtain⟨y,i,b,f,_⟩:=EJ h;obtain rfl|a:=cI.1 a
  .intro e;rw[e]at b;cases b
  .exact Tz f v a
theorem MU{orc:Option bJ}{f:FuncId}{vs:List AV}{v:AV}{s:St}(h:xR orc st d f vs=some (v,s)):∀ v∈vs,v ≠ .undef:=by
 obtain⟨c,_,_,a,_⟩:=Gs h;cases b:BC c.res with
 | true =>
  unfold BD at a;cases i:c.res with
  | oo m n l j=>rw[i]at a;intro v k e;subst e;exact a.2.1 k
  | _=>rw[i]at b;cases b
 | false =>
  rw[z51 b]at a;exact Tz a
def Q0{mx:Bool}:∀ {l:List AV} {r:PV},yh mx l=some r->∀ v∈l,v ≠ .undef:=by
 have m:∀ (f:PV->AV->Option PV) (k:∀ a,f a .undef=none) (l:List AV) (a r:PV),l.foldlM f a=some r->∀ v∈l,v ≠ .undef:=by
  intro f k l
  induction l with
  | nil=>intro a r _ v i;cases i
  | cons x l n =>
   intro a r h v i;simp at h;cases j:f a x with
   | none=>rw[j]at h;cases h
   | some b =>
    rw[j]at h;obtain rfl|i:=cI.1 i
    .grind
    .grind
 intro l r h;unfold yh at h;split at h
 .grind
 .grind
theorem EB{o:Option bP}{n m:Nat}(h:sP st o n=some m):∀ x∈iJ o,st.ev x ≠ .undef:=by
 intro x a;cases o with
 | none=>cases a
 | some y =>
  simp[iJ]at a;subst a;intro e;simp only[sP,e]at h;cases h
def A6{v:AV}{n:Nat}(h:vw v=some n):v ≠ .undef:=by intro e;rw[e]at h;cases h
def ygz{orc:Option bJ}{w:c7}{v:AV}{s:St}(h:bY orc st d w=some (v,s)):(∃ x,w=.mv x)\/(∃ c a b,w=.pick c a b)\/∀ x∈w.bZ,st.ev x ≠ .undef:=by
 cases w<;>simp only[bY]at h<;>simp only[c7.bZ]
 case mv x=>exact .inl ⟨x,rfl⟩
 case pick c a b=>exact .inr (.inl ⟨c,a,b,rfl⟩)
 all_goals refine .inr (.inr λz hz=>?_)
 case alloc|raw|bad=>cases hz
 case box u x =>
  simp only[iT]at hz;subst hz;split at h
  .rename_i t;intro e;rw[e]at t;simp[AV.sz]at t;omega
  .cases h
 case build zero I =>
  split at h
  .rename_i L t;obtain⟨p,B,rfl⟩:=cA.1 hz;exact RJ t (p.1,p.2.1,st.ev p.2.2) (cA.2 ⟨p,B,rfl⟩)
  .cases h
 case b4 u zero n I =>
  split at h
  .rename_i G;split at h
   .rename_i F t;obtain⟨p,B,rfl⟩:=cA.1 hz;have:=RI G.2.1 t (p.1,(st.ev p.2).ey) (cA.2 ⟨p,B,rfl⟩);intro e;exact this (by simp only[e,AV.ey])
   .cases h
  .cases h
 case load|bV|not|neg|tA|conv|iP|extract|len|ic|cap|clear =>
  simp only[iT]at hz;subst hz;intro e;simp only[e]at h;cases h
 case field C u E x =>
  simp only[iT]at hz;subst hz;intro e;simp only[e,AV.jB]at h;cases h
 case fE u z a x =>
  simp only[cI,sF,or_false]at hz;split at h
  .rename_i j o;obtain rfl|rfl:=hz
   .rw[j];intro e;cases e
   .exact A6 o
  .cases h
 case mr J z x k =>
  simp only[cI,sF,or_false]at hz;split at h
  .rename_i j o;obtain rfl|rfl:=hz
   .rw[j];intro e;cases e
   .rw[o];intro e;cases e
  .cases h
 case jY J z x k =>
  simp only[cI,sF,or_false]at hz;split at h
  .rename_i j o;obtain rfl|rfl:=hz
   .rw[j];intro e;cases e
   .rw[o];intro e;cases e
  .cases h
 case qK x i =>
  simp only[cI,sF,or_false]at hz;split at h
  .rename_i j o;obtain rfl|rfl:=hz
   .rw[j];intro e;cases e
   .exact A6 o
  .cases h
 case store u a x =>
  simp only[cI,sF,or_false]at hz;split at h
  .rename_i H;split at h
   .split at h
    .split at h
     .rename_i t;obtain rfl|rfl:=hz
      .rw[H];intro e;cases e
      .intro e;rw[e]at t;simp[AV.sz]at t;omega
     .cases h
    .cases h
   .cases h
  .cases h
 case dI w x y =>
  simp only[cI,sF,or_false]at hz;split at h
  .rename_i r;unfold dI at r;split at r
   .rename_i j o;obtain rfl|rfl:=hz
    .rw[j];intro e;cases e
    .rw[o];intro e;cases e
   .cases r
  .cases h
 case gJ w x y =>
  simp only[cI,sF,or_false]at hz;split at h
  .rename_i r;unfold gJ at r;split at r
   .rename_i j o;obtain rfl|rfl:=hz
    .rw[j];intro e;cases e
    .rw[o];intro e;cases e
   .cases r
  .cases h
 case j' O w x y =>
  simp only[cI,sF,or_false]at hz;split at h
  .rename_i r;unfold j' at r;split at r
   .rename_i j o;obtain rfl|rfl:=hz
    .rw[j];intro e;cases e
    .rw[o];intro e;cases e
   .cases r
  .cases h
 case gT f D =>
  split at h
  .rename_i t;have:=k8.1 t (st.ev z) (cA.2 ⟨z,hz,rfl⟩);intro e;rw[e]at this;cases this
  .cases h
 case cM u zero l c =>
  simp only[cI,sF,or_false]at hz;split at h
  .rename_i j o;obtain rfl|rfl:=hz
   .exact A6 j
   .exact A6 o
  .cases h
 case slice u x R M =>
  simp only[cI,dN]at hz;split at h
  .rename_i l F j o;split at h
   .rename_i k A;obtain rfl|hz|hz:=hz
    .rw[o];intro e;cases e
    .exact EB j z hz
    .exact EB A z hz
   .cases h
  .rename_i l S g C len j o;split at h
   .rename_i k A;obtain rfl|hz|hz:=hz
    .rw[o];intro e;cases e
    .exact EB j z hz
    .exact EB A z hz
   .cases h
  .rename_i l j o;split at h
   .rename_i k A;obtain rfl|hz|hz:=hz
    .rw[o];intro e;cases e
    .exact EB j z hz
    .exact EB A z hz
   .cases h
  .cases h
 case cG u x i =>
  simp only[cI,sF,or_false]at hz;split at h
  .rename_i j o;obtain rfl|rfl:=hz
   .rw[o];intro e;cases e
   .exact A6 j
  .rename_i j o;obtain rfl|rfl:=hz
   .rw[o];intro e;cases e
   .exact A6 j
  .cases h
 case cB m u x i =>
  simp only[cI,sF,or_false]at hz;split at h
  .rename_i j o;obtain rfl|rfl:=hz
   .rw[o];intro e;cases e
   .exact A6 j
  .rename_i j o;obtain rfl|rfl:=hz
   .rw[o];intro e;cases e
   .exact A6 j
  .cases h
 case idx m u E x i =>
  simp only[cI,sF,or_false]at hz;split at h
  .rename_i j;obtain rfl|rfl:=hz
   .intro e;simp only[e,AV.jB]at h;split at h<;>cases h
   .exact A6 j
  .cases h
 case append u a x =>
  simp only[cI,sF,or_false]at hz;split at h
  .rename_i j;obtain rfl|rfl:=hz
   .intro e;simp only[e]at h;split at h<;>cases h
   .intro e;rw[e]at j;cases j
  .cases h
 case min K =>
  split at h
  .rename_i j;exact Q0 j _ (cA.2 ⟨z,hz,rfl⟩)
  .cases h
 case max K =>
  split at h
  .rename_i j;exact Q0 j _ (cA.2 ⟨z,hz,rfl⟩)
  .cases h
 case call f args=>exact MU h _ (cA.2 ⟨z,hz,rfl⟩)
 case iv x args =>
  simp only[cI]at hz;split at h
  .rename_i j;obtain rfl|hz:=hz
   .rw[j];intro e;cases e
   .exact MU h _ (dN.2 (.inl (cA.2 ⟨z,hz,rfl⟩)))
  .rename_i j;obtain rfl|hz:=hz
   .rw[j];intro e;cases e
   .exact MU h _ (dN.2 (.inl (cA.2 ⟨z,hz,rfl⟩)))
  .cases h
def yga{s t s1 a:St}{R W:List Nat}(h:Le s t)(e:pJ s s1 t a R W)(d:Option Nat)(v:AV):Le (s1.put d v) (a.put d v):=by
 obtain⟨p,f,i,j,k,r⟩:=e;have o:Le s1 a:=by
  refine⟨λn=>?_,λn=>?_⟩
  .have l:s1.get n=s.get n:=AB k n;have m:a.get n=t.get n:=AB j n;rw[l,m];exact h.get n
  .by_cases b:n∈W
   .grind
   .rw[f n b,i n b];exact h.site n
 exact o.put d (.inl rfl)
theorem ygp{orc:Option bJ}{i:Ins}{s B t:St}(h:Le s t)(l:exec orc s i=some B):∃ D,exec orc t i=some D/\fp orc t i=fp orc s i/\Le B D:=by
 have z:(∃ v s1,bY orc s (i.dst.getD 0) i.op=some (v,s1)/\B=s1.put i.dst v/\(∀ orc,exec orc t i=tM orc t i)/\runs t i=runs s i) \/
   (B=s.put i.dst .skip/\exec orc t i=some (t.put i.dst .skip)/\runs t i=false/\runs s i=false):=by
  unfold exec at l;split at l
  .rename_i o;unfold tM at l;split at l
   .rename_i v s1 j;cases l;exact .inl ⟨v,s1,j,rfl,λorc=>by simp only[exec,o],by simp only[runs,o]⟩
   .grind
  .rename_i g b o;split at l
   .rename_i c r;have k:t.get g=.p (.bool c):=by
     obtain e|e:=h.get g
     .grind
     .grind
    split at l
    .rename_i m;unfold tM at l;split at l
     .rename_i v s1 j;cases l;exact .inl ⟨v,s1,j,rfl,λorc=>by simp only[exec,o,k,m,cH],by simp only[runs,o,k,r]⟩
     .grind
    .rename_i m;cases l;exact .inr ⟨rfl,by simp only[exec,o,k,m,if_false],by simp only[runs,o,k];simpa using m,by simp only[runs,o,r];simpa using m⟩
   .rename_i r;have k:t.get g=.skip:=by
     obtain e|e:=h.get g
     .rw[<- e,r]
     .rw[r]at e;cases e
    cases l;exact .inr ⟨rfl,by simp only[exec,o,k],by simp only[runs,o,k],by simp only[runs,o,r]⟩
   .cases l
 obtain⟨v,s1,j,rfl,w,A⟩|⟨rfl,j,G,H⟩:=z
 .obtain⟨x,f⟩|⟨c,a,b,f⟩|hd:=ygz j
  .rw[f]at j;simp only[bY,cD,c5]at j;obtain⟨rfl,rfl⟩:=j;refine⟨t.put i.dst (t.ev x),by rw[w];simp only[tM,f,bY],by simp only[fp,A,f,ek,gV],h.put _ (h.ev x)⟩
  .rw[f]at j;simp only[bY]at j;have r:∀ q,s.ev c=.p (.bool q)->t.ev c=.p (.bool q):=λq u=>by
    obtain e|e:=h.ev c
    .rw[<- e,u]
    .rw[u]at e;cases e
   split at j
   .rename_i u;cases j;exact⟨t.put i.dst (t.ev a),by rw[w];simp only[tM,f,bY,r _ u],by simp only[fp,A,f,ek,gV],h.put _ (h.ev a)⟩
   .rename_i u;cases j;exact⟨t.put i.dst (t.ev b),by rw[w];simp only[tM,f,bY,r _ u],by simp only[fp,A,f,ek,gV],h.put _ (h.ev b)⟩
   .cases j
  .have y:∀ x∈i.op.bZ,t.ev x=s.ev x:=λx w=>(h.ev x).elim (λe=>e.symm) (λe=>absurd e (hd x w));obtain⟨I,E,F⟩:=LW (orc:=orc) j y (λn _=>h.site n);have C:=Qt (orc:=orc) (d:=i.dst.getD 0) y (λn _=>h.site n);refine⟨I.put i.dst v,by rw[w];simp only[tM,E],by simp only[fp,A,C.1,C.2],?_⟩;exact yga h F i.dst v
 .exact⟨_,j,by simp only[fp,G,H,gP,fQ],h.put _ (.inl rfl)⟩
theorem FU{b:List Ins}:∀ {a:List FP} {st s1 st':St},rK P b a st st'->iw st s1->∃ k,rK P b a s1 k/\iw st' k
 | _,st,s1,_,.nil _,h=>⟨s1,.nil _,h⟩
 | _,st,s1,_,.cons j i b f a _ k _ o p r s,h=>by obtain⟨x,l,m,n⟩:=TF p h;obtain⟨w,t,u⟩:=FU s n;exact⟨w,.cons j i b f a _ _ _ o l (m ▸ r) t,u⟩
theorem Fu{b:List Ins}:∀ {a:List FP} {st s1 st':St},rK P b a st st'->Le st s1->∃ k,rK P b a s1 k/\Le st' k
 | _,st,s1,_,.nil _,h=>⟨s1,.nil _,h⟩
 | _,st,s1,_,.cons j i b f a _ k _ o p r s,h=>by obtain⟨x,l,m,n⟩:=ygp h p;obtain⟨w,t,u⟩:=Fu s n;exact⟨w,.cons j i b f a _ _ _ o l (m ▸ r) t,u⟩
def Sw{m:c7}{K:Option bJ->AV->St->Prop}(h:pA P st d m K):∃ orc v s,xH P orc/\bY orc st d m=some (v,s)/\K orc v s:=by
 unfold pA at h;split at h
 .obtain⟨c,a,v,s,b,k⟩:=h;exact⟨some c,v,s,λ_ i=>by cases i;exact a,b,k⟩
 .unfold Fk at h;split at h
  .rename_i f j l;obtain⟨c,a,v,s,b,k⟩:=h;exact⟨some c,v,s,λ_ i=>by cases i;exact a,by simp[bY,l];exact b,k⟩
  .rename_i f j l;obtain⟨c,a,v,s,b,k⟩:=h;exact⟨some c,v,s,λ_ i=>by cases i;exact a,by simp[bY,l];exact b,k⟩
  .grind
 .obtain⟨v,s,a,b⟩:=YX h;exact⟨none,v,s,λ_ i=>(by cases i),a,b⟩
def PR{i:Ins}{K:St->Option bJ->AV->St->Prop}{J:St->Prop}
  (h:BE st i.guard (λst=>pA P st (i.dst.getD 0) i.op (K st)) J) :
  (∃ s0 orc v s,iw s0 st/\xH P orc/\exec orc s0 i=some (s.put i.dst v)/\K s0 orc v s)\/(∃ s0,iw s0 st/\exec none s0 i=some (s0.put i.dst .skip)/\J s0):=by
 unfold BE at h;split at h
 .rename_i l;obtain⟨orc,v,s,n,o,r⟩:=Sw h;exact .inl ⟨st,orc,v,s,iw.refl _,n,by simp only[exec,l,tM,o],r⟩
 .rename_i t b l;split at h
  .rename_i c j;by_cases m:c=b
   .subst m;obtain⟨orc,v,s,n,o,r⟩:=Sw (h.1 rfl);have k:=Rv (t:=t) j;have f:(st.rep (some t) (.p (.bool c))).get t=.p (.bool c):=by rw[k.get];exact j
    exact .inl ⟨_,orc,v,s,iw.symm k,n,by simp only[exec,l,f,cH,tM,o],r⟩
   .have a:c = !b:=by cases c<;>cases b<;>simp_all
    have k:=Rv (t:=t) (v:=.p (.bool !b)) (by rw[j,a]);have f:(st.rep (some t) (.p (.bool !b))).get t=.p (.bool !b):=by rw[k.get,j,a]
    refine .inr ⟨_,iw.symm k,?_,h.2 a⟩;simp only[exec,l,f];rw[bD (by cases b<;>simp)]
  .rename_i j;exact .inr ⟨st,iw.refl _,by simp only[exec,l,j],h⟩
  .exact h.elim
def z21{v:AV}{A B:Prop}(h:JM v A B):(v=.p (.bool true)/\A)\/(v=.p (.bool false)/\B):=by
 unfold JM at h;split at h
 .rename_i t;cases t
  .grind
  .grind
 .grind
theorem Es{id:Nat}:∀ {ks:List Kt} {s:St},(match fO id ks with|some a=>eT P N Q a .normal s|none=>Q (.exit id) s)->eT P N Q ks (.exit id) s
 | [],s,h=>h
 | .bX j::ks,s,h=>by
  simp[fO]at h;simp[eT];by_cases b:j=id
  .grind
  .rw[bD (λh=>b h.symm)];simp[b]at h;exact Es h
 | .ins _ _::ks,s,h=>Es (ks:=ks) h
 | .fN _ _ _ _::ks,s,h=>Es (ks:=ks) h
 | .code _::ks,s,h=>Es (ks:=ks) h
theorem zU:∀ {ks:List Kt} {s:St},Q .ret s->eT P N Q ks .ret s
 | [],s,h=>h
 | .bX j::ks,s,h=>zU (ks:=ks) h
 | .ins _ _::ks,s,h=>zU (ks:=ks) h
 | .fN _ _ _ _::ks,s,h=>zU (ks:=ks) h
 | .code _::ks,s,h=>zU (ks:=ks) h
theorem WO{b:List Ins}{a:List (List Nat)}{ks:List Kt}(h:eT P N Q (.ins b a::ks) .normal st):eT P N Q (.code (.cX b a)::ks) .normal st:=by obtain⟨l,s1,k,f,i,j⟩:=h;exact⟨.normal,k,(cU.cX f).sU i,j⟩
theorem XR{b:List Ins}{pre:List (List Nat)}{a:List (List Nat)}{ks:List Kt}(h:eT P N Q (.fN b [] pre a::ks) .normal st):eT P N Q (.code (.fR b pre a)::ks) .normal st:=by obtain⟨m,s1,l,i,f,j,k⟩:=h;exact⟨.normal,l,(cU.fR i (by simpa using f)).sU j,k⟩
theorem z91{a b:GC}{ks:List Kt}(h:eT P N Q (.code a::.code b::ks) .normal st):eT P N Q (.code (.seq a b)::ks) .normal st:=by
 obtain⟨f,s1,i,j⟩:=h;cases f with
 | normal =>
  obtain⟨f,m,k,l⟩:=j;exact⟨f,m,.seq i k,l⟩
 | _=>exact⟨_,s1,.NU i (by simp),j⟩
theorem z93{id:Nat}{b:GC}{ks:List Kt}(h:eT P N Q (.code b::.bX id::ks) .normal st):eT P N Q (.code (.bX id b)::ks) .normal st:=by
 obtain⟨k,s,i,a⟩:=h;cases k with
 | exit j =>
  simp[eT]at a;split at a
  .rename_i f;subst f;exact⟨_,s,.Oy i,a⟩
  .rename_i f;exact⟨_,s,.Ox i f,a⟩
 | _=>exact⟨_,s,.bX i (by simp),a⟩
theorem lL:∀ (n:Nat) {ks:List Kt} {st:St},mZ ks<=n->vm P N Q ks st->eT P N Q ks .normal st
 | n,[],st,l,h=>by unfold vm at h;exact h
 | 0,k::ks,st,l,h=>by simp only[mZ]at l;have:=Kt.eI k;omega
 | n+1,.bX j::ks,st,l,h=>by
  unfold vm at h;have S:mZ ks<=n:=by simp only[mZ,Kt.sz]at l;omega
  exact(lL n S h:eT P N Q ks .normal st)
 | n+1,.ins [] f::ks,st,l,h=>by
  unfold vm at h;exact⟨[],st,_,.nil _,aA.refl _,lL n (by simp only[mZ,Kt.sz,List.length_nil]at l ⊢;omega) h⟩
 | n+1,.fN [] R pre f::ks,st,l,h=>by
  unfold vm at h;exact⟨[],st,_,.nil _,by simpa using h.1,aA.refl _,lL n (by simp only[mZ,Kt.sz,List.length_nil]at l ⊢;omega) h.2⟩
 | n+1,.ins (i::r) f::ks,st,l,h=>by
  unfold vm at h;have p:mZ (.ins r f.tail::ks)<=n:=by simp only[mZ,Kt.sz,qH]at l ⊢;omega
  obtain⟨u,x,v,s,w,M,y,z⟩|⟨u,w,y,z⟩:=PR (K:=λ_ _ v s=>vm P N Q (.ins r f.tail::ks) ((s.rep i.dst v).eR f)) h
  .obtain⟨t,s1,D,m,o,C⟩:=lL n p z;obtain⟨E,A,B⟩:=Fu m ((H' _ f).trans (Le.rW (iw.symm (Fy s i.dst v))));obtain⟨F,G,H⟩:=FU (rK.cons x i r _ t u _ E M y (FP.Sub.refl _) A) w;exact⟨_,F,D,G,(Ij (iw.symm H)).trans (B.eE.trans o),C⟩
  .obtain⟨t,s1,D,m,o,C⟩:=lL n p z;obtain⟨E,A,B⟩:=Fu m ((H' _ f).trans (Le.rW (iw.symm (Fy u i.dst .skip))));obtain⟨F,G,H⟩:=FU (rK.cons none i r _ t u _ E (λ_ L=>by cases L) y (FP.Sub.refl _) A) w;exact⟨_,F,D,G,(Ij (iw.symm H)).trans (B.eE.trans o),C⟩
 | n+1,.fN (i::r) R pre f::ks,st,l,h=>by
  unfold vm at h;have p:∀ t,mZ (.fN r t pre f.tail::ks)<=n:=by intro t;simp only[mZ,Kt.sz,qH]at l ⊢;omega
  obtain⟨u,x,v,s,w,M,y,z⟩|⟨u,w,y,z⟩:=PR (K:=λst c v s=>vm P N Q (.fN r (R++[fp c st i]) pre f.tail::ks) ((s.rep i.dst v).eR f)) h
  .obtain⟨t,s1,D,m,O,o,C⟩:=lL n (p _) z;obtain⟨E,A,B⟩:=Fu m ((H' _ f).trans (Le.rW (iw.symm (Fy s i.dst v))));obtain⟨F,G,H⟩:=FU (rK.cons x i r _ t u _ E M y (FP.Sub.refl _) A) w;exact⟨_,F,D,G,by simpa using O,(Ij (iw.symm H)).trans (B.eE.trans o),C⟩
  .obtain⟨t,s1,D,m,O,o,C⟩:=lL n (p _) z;obtain⟨E,A,B⟩:=Fu m ((H' _ f).trans (Le.rW (iw.symm (Fy u i.dst .skip))));obtain⟨F,G,H⟩:=FU (rK.cons none i r _ t u _ E (λ_ L=>by cases L) y (FP.Sub.refl _) A) w;exact⟨_,F,D,G,by simpa using O,(Ij (iw.symm H)).trans (B.eE.trans o),C⟩
 | n+1,.code .js::ks,st,l,h=>by
  unfold vm at h;exact⟨.normal,st,.js,lL n (by simp only[mZ,Kt.sz,GC.sz]at l ⊢;omega) h⟩
 | n+1,.code (.cX r f)::ks,st,l,h=>by
  unfold vm at h;exact WO (lL n (by simp only[mZ,Kt.sz,GC.sz]at l ⊢;omega) h)
 | n+1,.code (.fR r pre f)::ks,st,l,h=>by
  unfold vm at h;exact XR (lL n (by simp only[mZ,Kt.sz,GC.sz]at l ⊢;omega) h)
 | n+1,.code (.seq a b)::ks,st,l,h=>by
  unfold vm at h;exact z91 (lL n (by simp only[mZ,Kt.sz,GC.sz]at l ⊢;omega) h)
 | n+1,.code (.bX id b)::ks,st,l,h=>by
  unfold vm at h;exact z93 (lL n (by simp only[mZ,Kt.sz,GC.sz]at l ⊢;omega) h)
 | n+1,.code (.cond c f a b)::ks,st,l,h=>by
  unfold vm at h;obtain⟨e,h⟩|⟨e,h⟩:=z21 h
  .obtain⟨I,s,m,o⟩:=lL n (by have:=GC.eI b;simp only[mZ,Kt.sz,GC.sz]at l ⊢;omega) h;exact⟨I,s,.Hn e (m.nK (II _ _)),o⟩
  .obtain⟨I,s,m,o⟩:=lL n (by have:=GC.eI a;simp only[mZ,Kt.sz,GC.sz]at l ⊢;omega) h;exact⟨I,s,.Ho e (m.nK (II _ _)),o⟩
 | n+1,.code (.loop b)::ks,st,l,h=>by
  unfold vm at h;obtain⟨I,s,m,o⟩:=h;exact⟨I,s,.loop m,by cases I<;>exact o⟩
 | n+1,.code (.ext id)::ks,st,l,h=>by
  unfold vm at h;refine⟨.exit id,st,.ext,Es ?_⟩;split at h
  .rename_i U J;simp only[J];exact lL n (by have:=Ew J;simp only[mZ,Kt.sz,GC.sz]at l ⊢;omega) h
  .rename_i J;simp only[J];exact h
 | n+1,.code .ret::ks,st,l,h=>by
  unfold vm at h;exact⟨.ret,st,.ret,zU h⟩
 | n+1,.code .bad::ks,st,l,h=>by
  unfold vm at h;exact h.elim
 | n+1,.code (.Dp b)::ks,st,l,h=>by unfold vm at h;exact h.elim
 | n+1,.code (.cut b)::ks,st,l,h=>by unfold vm at h;exact h
end
end Go.Ab
