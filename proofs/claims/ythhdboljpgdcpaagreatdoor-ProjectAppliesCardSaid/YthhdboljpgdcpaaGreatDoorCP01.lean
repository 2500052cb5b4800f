/- Lemmas for the law ProjectApplies, part 1. No conditions. -/
import Derived.Test.YthhdboljpgdcpaaGreatDoorCP00
import Derived.Scope
set_option maxRecDepth 100000
set_option maxHeartbeats 4000000
set_option linter.all false
namespace Go.Ab
def EN(M:Nat->Option Obj)(ks vs:List PV)(es:Array MapEntry)(b:Nat):Prop :=
 PReps M ks (es.toList.map (·.key))/\PReps M vs (es.toList.map (·.val))/\(es.toList.map (·.key)).Nodup/\(∀ e∈es.toList,e.born<b)/\(es.toList.map (·.born)).Nodup
structure sv (Z:Cz) (st:St) (w:World) (r:Nat):Prop where
 m:Z.M r=none
 o:∀ s g o,st.obj s g=some o->Z.B s g≠some r
 lt:r<w.heap.size
def lH(Z:Cz)(st:St)(b:Nat):Prop:=∃ s g o,st.obj s g=some o/\Z.B s g=some b
abbrev zaV:=Nat × List PV × List PV
def Au:Option zaV->Nat->Prop
 | none,_=>False
 | some m,b=>b=m.1
def qB(o:Option zaV)(K:Ctx)(Z:Cz)(st:St)(w:World):Prop :=
 match o with
 | none=>True
 | some m=>sv Z st w m.1/\(K.X0 m.1\/K.w0.heap.size<=m.1)/\∃ f b,w.heap[m.1]?=some (.map f b)/\EN Z.M m.2.1 m.2.2 f b
def su(k:HV)(Z:Cz)(st:St)(w0 w:World)(x:Value):Prop :=
 match k with
 | .av v=>aQ Z st v x
 | .fr l p=>sq Z.M w0 w (.fresh l p) x/\∀ b n c,x=.slice (some ⟨b,0,none⟩) n c->∀ s g o,st.obj s g=some o->Z.B s g≠some b
 | .bx l e r=>∃ (b h:Nat) (j:Array Value) (T:TypeId) (f m:List Value),x=.tuple (.pointer (some ⟨b,0,none⟩)::m).toArray/\PReps Z.M r m/\w0.heap.size<=b/\Z.M b=none/\w.heap[b]?=some (.cells j T (0,0))/\aG Z st e.cells f /\
  (∀ (i:Nat) (v:Value),f[i]?=some v->j[i]?=some v)/\j.size=h*l/\(1<=h/\h<=maxLen)/\(∀ c∈e.cells,c.one=true)/\∀ s g o,st.obj s g=some o->Z.B s g≠some b
abbrev oA(Z:Cz)(hp:List Site)(o:Option zaV)(w:World):Ctx:=⟨w,Z.M,λb=>lH Z ⟨[],hp⟩ b\/Au o b,0⟩
def kU(P:Program)(f:FuncId)(vs:List AV)(hp:List Site)(o:Option zaV)(j:HV)(b:List Site)(o':Option zaV):Prop :=
 (∃ i,P.funcs[f]?=some i/\i.body.isSome=true/\i.name ≠ "runtime.NumGoroutine") /\
 ∀ (Z:Cz) (w:World) (h:List Value),bG (oA Z hp o w) Z ⟨[],hp⟩ w->qB o (oA Z hp o w) Z ⟨[],hp⟩ w->aG Z ⟨[],hp⟩ vs h ->
  Calls P f h.toArray w λe w'=>∃ x Z',e=.returned x/\bG (oA Z hp o w) Z' ⟨[],b⟩ w'/\su j Z' ⟨[],b⟩ w w' x/\cP Z ⟨[],hp⟩ Z' ⟨[],b⟩/\qB o' (oA Z hp o w) Z' ⟨[],b⟩ w'
def UX(P:Program)(f:FuncId)(vs:List AV)(hp:List Site)(v:AV)(b:List Site):Prop:=kU P f vs hp none (.av v) b none
structure zF (R:Nat->Prop) (Z:Cz) (st:St) (w:World) (Z':Cz) (st':St) (w':World):Prop where
 M:∀ b o,Z.M b=some o->Z'.M b=some o
 f:∀ r,¬ R r->sv Z st w r->sv Z' st' w' r/\w'.heap[r]?=w.heap[r]?
 z:cP Z st Z' st'
def fB{st st2:St}{s g:Nat}(h:st2.site s=st.site s):st2.obj s g=st.obj s g:=by simp[St.obj,h]
theorem BR{α : Type}{d : α}:∀ {l:List (Nat × α)} {s:Nat},look l s d=d\/∃ q∈l,q.1=s/\look l s d=q.2
 | [],_=>.inl rfl
 | (k,v)::r,s=>by
  simp[look];split
  .simp_all
  .obtain h|⟨q,b,f⟩:=BR (d:=d) (l:=r) (s:=s)
   .grind
   .grind
theorem yE(ks:List Nat):∀ l:List AV,lC ks l=l.all (pR ks)
 | []=>rfl
 | v::r=>by simp[lC,yE ks r]
section
variable {P:Program} {K:Ctx} {Z Z' Z2:Cz} {st st' st1 st2:St} {w w':World} {a:Act} {ks:List Nat} {v:AV}
theorem MT{u:AV}(h:pR ks u=true):lC ks u.cells=true:=by
 cases u with
 | p p =>
  cases p with
  | agg b=>simp[AV.cells,yE,pR]
  | _=>rfl
 | agg b=>exact h
 | _=>simp[AV.cells,lC,h]
def MS{es:List AV}(h:lC ks es=true):lC ks (es.flatMap AV.cells)=true:=by
 simp only[yE,k8]at h ⊢;intro c b;obtain⟨e,f,b⟩:=kC.1 b;have:=MT (h e f);rw[yE]at this
 grind
mutual
theorem aQ.gU(hs:∀ s,ks.contains s=true->st2.site s=st.site s)(k:∀ b o,Z.M b=some o->Z2.M b=some o)(j:∀ s g,ks.contains s=true->Z2.B s g=Z.B s g/\Z2.cap s g=Z.cap s g):∀ {u:AV} {x:Value},aQ Z st u x->pR ks u=true->aQ Z2 st2 u x
 | _,_,.p u x hp,_=>.p u x (PRep.mono k hp)
 | _,_,.nil,_=>.nil
 | _,_,.d' s g o n m,h=>.d' s g o (by rw[fB (hs s h)];exact n) (by rw[(j s g h).1];exact m)
 | _,_,.own s g off len o b ad c n m i l h3 r,h=>.own s g off len o b ad c (by rw[fB (hs s h)];exact n) (by rw[(j s g h).1];exact m) (by rw[(j s g h).2];exact i) l h3 r
 | _,_,.eO s g off len ad c t hd,h=>.eO s g off len ad c (by rw[hs s h];exact t) (by rw[fB (hs s h)];exact hd)
 | _,_,.ptr s g ix off o b n m,h=>.ptr s g ix off o b (by rw[fB (hs s h)];exact n) (by rw[(j s g h).1];exact m)
 | _,_,.kP s g ix off ad t hd,h=>.kP s g ix off ad (by rw[hs s h];exact t) (by rw[fB (hs s h)];exact hd)
 | _,_,.cp u vM off b o cur T fr vals z i l h3 r A,_=>.cp u vM off b o cur T fr vals (k _ _ z) i l h3 (PReps.mono k r) A
 | _,_,.agg cs vals i l,h=>.agg cs vals i (aG.gU hs k j l h)
 | _,_,.fn f iF vals i,h=>.fn f iF vals (aG.gU hs k j i h)
 | _,_,.bM vs vals i,h=>.bM vs vals (aG.gU hs k j i h)
 | _,_,.skip,_=>.skip
 | _,_,.undef x,_=>.undef x
theorem aG.gU(hs:∀ s,ks.contains s=true->st2.site s=st.site s)(i:∀ b o,Z.M b=some o->Z2.M b=some o)(f:∀ s g,ks.contains s=true->Z2.B s g=Z.B s g/\Z2.cap s g=Z.cap s g):∀ {u:List AV} {x:List Value},aG Z st u x->lC ks u=true->aG Z2 st2 u x
 | _,_,.nil,_=>.nil
 | _,_,.cons u x us xs j k,h=>by simp only[lC,jO]at h;exact .cons _ _ _ _ (aQ.gU hs i f j h.1) (aG.gU hs i f k h.2)
end
def oC.gU(hs:∀ s,ks.contains s=true->st2.site s=st.site s)(k:∀ b o,Z.M b=some o->Z2.M b=some o)(f:∀ s g,ks.contains s=true->Z2.B s g=Z.B s g/\Z2.cap s g=Z.cap s g){s g:Nat}{o:bI}(i:ks.contains s=true)(l:lC ks o.es=true)
  (h:oC Z st w s g o):oC Z2 st2 w s g o:=by
 refine⟨h.pos,h.iI,h.one,λhn=>h.x5 (by rw[<- (f s g i).1];exact hn),λb j=>?_⟩;rw[(f s g i).1]at j;obtain⟨cur,T,vals,m,n,p,r,t,u⟩:=h.bX b j;rw[(f s g i).2];exact⟨cur,T,vals,m,aG.gU hs k f n (MS l),p,r,t,u⟩
def Gk{hp:List Site}{s:Nat}(h:(hp.map (·.1)).contains s=false):look hp s []=[]:=by
 obtain b|⟨q,b,rfl,_⟩:=BR (d:=([]:List (Option bI))) (l:=hp) (s:=s)
 .omega
 .grind
theorem CS{hp r:List Site}{s:Nat}:look (hp++r) s []=if (hp.map (·.1)).contains s=true then look hp s []else look r s []:=by
 induction hp with
 | nil=>simp
 | cons q l b =>
  obtain⟨k,x⟩:=q;simp[xX,look];by_cases h:k=s
  .grind
  .grind
def FW{hp:List Site}(h:dS ks hp=true){s g:Nat}{o:bI}(b:(⟨[],hp⟩:St).obj s g=some o):lC ks o.es=true:=by
 obtain f|⟨q,f,_,j⟩:=BR (d:=([]:List (Option bI))) (l:=hp) (s:=s)
 .simp[St.obj,St.site,f]at b
 .have:=k8.1 (k8.1 h q f);simp[St.obj,St.site,j]at b;cases i:q.2[g]? with
  | none=>rw[i]at b;cases b
  | some x =>
   rw[i]at b;subst b;exact this _ (wM i)
theorem IG{hp:List Site}:∀ {r:List Site},qA st hp r->∀ q∈r,st.site q.1=look hp q.1 []
 | q::r,h,x,b=>by
  obtain rfl|b:=cI.1 b
  .exact h.1
  .exact IG h.2 x b
theorem Qo{hp i:List Site}{o o':Option zaV}{U:HV}{x:Value}(G:o'.map (·.1)=o.map (·.1))(Y:i.map (·.1)=hp.map (·.1))(af:∀ s,(hp.map (·.1)).contains s=true->st.site s=look hp s [])(br:dS (hp.map (·.1)) i=true)(ap:(match U with | .av v=>pR (hp.map (·.1)) v | .bx _ e _=>pR (hp.map (·.1)) e|_=>true)=true)
  (hs:bG K Z st w) (V:qB o K Z st w) (z:bG (oA Z hp o w) Z' ⟨[],i⟩ w') (D:su U Z' ⟨[],i⟩ w w' x) (hz:cP Z ⟨[],hp⟩ Z' ⟨[],i⟩) (ao:qB o' (oA Z hp o w) Z' ⟨[],i⟩ w') :
  ∃ Z2,bG K Z2 ⟨st.sl,i++st.hp⟩ w'/\su U Z2 ⟨st.sl,i++st.hp⟩ w w' x/\cP Z st Z2 ⟨st.sl,i++st.hp⟩/\zF (Au o) Z st w Z2 ⟨st.sl,i++st.hp⟩ w'/\qB o' K Z2 ⟨st.sl,i++st.hp⟩ w':=by
 have X:∀ b,Au o b->sv Z st w b/\(K.X0 b\/K.w0.heap.size<=b)/\sv Z' ⟨[],i⟩ w' b/\Au o' b:=λb l=>by
  cases o with
  | none=>exact l.elim
  | some m =>
   cases o' with
   | none=>cases G
   | some m' =>
    have e:m'.1=m.1:=by simpa using G
    have l:b=m.1:=l;subst l;exact⟨V.1,V.2.1,by have:=ao.1;rw[e]at this;exact this,e.symm⟩
 have bu:∀ b,Au o' b->Au o b:=λb l=>by
  cases o with
  | none=>cases o' with
   | none=>exact l
   | some m'=>cases G
  | some m =>
   cases o' with
   | none=>cases G
   | some m' =>
    have e:m'.1=m.1:=by simpa using G
    have l:b=m'.1:=l;show b=m.1;rw[l,e]
 generalize hK:hp.map (·.1)=ks at *
 have s1:∀ s,ks.contains s=true->(⟨st.sl,i++st.hp⟩:St).site s=(⟨[],i⟩:St).site s:=λs h=>by simp only[St.site,CS,Y,h,cH]
 have F:∀ s,ks.contains s=false->(⟨st.sl,i++st.hp⟩:St).site s=st.site s:=λs h=>by simp only[St.site,CS,Y,h,gP,fQ]
 have s0:∀ s,ks.contains s=true->st.site s=(⟨[],hp⟩:St).site s:=af;have e0:∀ s,ks.contains s=false->(⟨[],hp⟩:St).site s=[]:=λs h=>Gk (by rw[hK];exact h);have e1:∀ s,ks.contains s=false->(⟨[],i⟩:St).site s=[]:=λs h=>Gk (by rw[Y];exact h);have W:∀ {s g o},(⟨[],i⟩:St).obj s g=some o->ks.contains s=true:=λ{s g o} p=>by
  cases h:ks.contains s with
  | true=>rfl
  | false=>simp[St.obj,e1 s h]at p
 have o0:∀ {s g o},ks.contains s=true->st.obj s g=some o->(⟨[],hp⟩:St).obj s g=some o:=λ{s g o} h p=>by rw[fB (s0 s h)]at p;exact p
 have t:∀ b,lH Z ⟨[],hp⟩ b->∃ s g o,ks.contains s=true/\st.obj s g=some o/\Z.B s g=some b:=λb ⟨s,g,o,p,l⟩=>by
  cases h:ks.contains s with
  | true=>exact⟨s,g,o,rfl.trans h,by rw[fB (s0 s h)];exact p,l⟩
  | false=>simp[St.obj,e0 s h]at p
 let Z2:Cz:=⟨Z'.M,λs g=>if ks.contains s=true then Z'.B s g else Z.B s g,λs g=>if ks.contains s=true then Z'.cap s g else Z.cap s g⟩
 have C:∀ s g,ks.contains s=true->Z2.B s g=Z'.B s g/\Z2.cap s g=Z'.cap s g:=λs g h=>by simp only[Z2,h,cH,and_self]
 have E:∀ s g,ks.contains s=false->Z2.B s g=Z.B s g/\Z2.cap s g=Z.cap s g:=λs g h=>by simp only[Z2,h,gP,fQ,and_self]
 have hM:∀ b o,Z.M b=some o->Z'.M b=some o:=z.m0;have al:cP Z st Z2 ⟨st.sl,i++st.hp⟩:=by
  refine⟨hM,λs=>?_,λs g hg hd=>?_,λs g o p=>?_⟩<;>cases h:ks.contains s
  .rw[F s h];exact dE _
  .rw[s1 s h,s0 s h];exact hz.len s
  .rw[fB (F s h)];exact hd
  .rw[fB (s1 s h)];exact hz.dead s g (by rw[<- s0 s h];exact hg) (by rw[<- fB (s0 s h)];exact hd)
  .exact .inr ⟨o,by rw[fB (F s h)];exact p,rfl,rfl,(E s g h).1,(E s g h).2⟩
  .rw[fB (s1 s h),(C s g h).1,(C s g h).2];exact hz.live s g o (o0 h p)
 have u:∀ {s g o b},ks.contains s=false->st.obj s g=some o->Z.B s g=some b->¬ lH Z ⟨[],hp⟩ b/\b<w.heap.size:=λ{s g o b} h p l=>by refine⟨λD=>?_,hs.lt p l⟩;obtain⟨s3,g3,o3,c1,L,O⟩:=t b D;obtain⟨rfl,rfl⟩:=hs.inj _ _ _ _ _ _ b p L l O;rw[h]at c1;cases c1
 have hh:bG K Z2 ⟨st.sl,i++st.hp⟩ w':=by
  have A:=z.keep;refine⟨λs g o p=>?_,λs g s' g' o o' b j I k J=>?_,z.mem,λs g o b j k=>?_,λs g o b j k=>?_,λb o l=>hM b o (hs.m0 b o l),λb o l=>?_,?_⟩
  .cases h:ks.contains s with
   | true =>
    rw[fB (s1 s h)]at p;exact oC.gU (Z:=Z') (Z2:=Z2) s1 (λ_ _ h=>h) C h (FW br p) (z.bT s g o p)
   | false =>
    rw[fB (F s h)]at p;exact(hs.bT s g o p).later al (E s g h).1 (E s g h).2 λb l=>A.bX b (u h p l).2 (λc=>c.elim (u h p l).1 λc=>(X b c).1.o _ _ _ p l)
  .cases h:ks.contains s<;>cases R:ks.contains s'
   .rw[fB (F _ h)]at j;rw[fB (F _ R)]at I;rw[(E _ _ h).1]at k;rw[(E _ _ R).1]at J;exact hs.inj _ _ _ _ _ _ b j I k J
   .rw[fB (F _ h)]at j;rw[fB (s1 _ R)]at I;rw[(E _ _ h).1]at k;rw[(C _ _ R).1]at J;have f:=u h j k;obtain(c|c)|c:=z.own _ _ _ b I J
    .exact absurd c f.1
    .exact absurd J ((X b c).2.2.1.o _ _ _ I)
    .have H:w.heap.size<=b:=c;omega
   .rw[fB (s1 _ h)]at j;rw[fB (F _ R)]at I;rw[(C _ _ h).1]at k;rw[(E _ _ R).1]at J;have f:=u R I J;obtain(c|c)|c:=z.own _ _ _ b j k
    .exact absurd c f.1
    .exact absurd k ((X b c).2.2.1.o _ _ _ j)
    .have H:w.heap.size<=b:=c;omega
   .rw[fB (s1 _ h)]at j;rw[fB (s1 _ R)]at I;rw[(C _ _ h).1]at k;rw[(C _ _ R).1]at J;exact z.inj _ _ _ _ _ _ b j I k J
  .cases h:ks.contains s
   .rw[fB (F _ h)]at j;rw[(E _ _ h).1]at k;have f:=u h j k;cases V:Z'.M b with
    | none=>rfl
    | some y =>
     exfalso;obtain c|(c|c)|c:=z.eM b y V
     .have H:Z.M b=some y:=c;rw[hs.sep _ _ _ b j k]at H;cases H
     .exact f.1 c
     .rw[(X b c).2.2.1.m]at V;cases V
     .have H:w.heap.size<=b:=c;omega
   .rw[fB (s1 _ h)]at j;rw[(C _ _ h).1]at k;exact z.sep _ _ _ b j k
  .have ca:∀ b,lH Z ⟨[],hp⟩ b->K.X0 b\/K.w0.heap.size<=b:=λb D=>by obtain⟨s3,g3,o3,_,L,O⟩:=t b D;exact hs.own _ _ _ b L O
   cases h:ks.contains s
   .rw[fB (F _ h)]at j;rw[(E _ _ h).1]at k;exact hs.own _ _ _ b j k
   .rw[fB (s1 _ h)]at j;rw[(C _ _ h).1]at k;obtain(c|c)|c:=z.own _ _ _ b j k
    .exact ca b c
    .exact absurd k ((X b c).2.2.1.o _ _ _ j)
    .exact .inr (dM hs.keep.size c)
  .obtain c|(c|c)|c:=z.eM b o l
   .exact hs.eM b o c
   .obtain⟨s3,g3,o3,_,L,O⟩:=t b c;exact .inr (hs.own _ _ _ b L O)
   .rw[(X b c).2.2.1.m]at l;cases l
   .exact .inr (.inr (dM hs.keep.size c))
  .have W:=hs.keep;refine⟨A.os.trans W.os,A.tape.trans W.tape,A.output.trans W.output,dM W.drawn A.drawn,dM W.size A.size,λb l D=>?_⟩;rw[A.bX b (iL l W.size) (λh=>?_),W.bX b l D];have bt:K.X0 b\/K.w0.heap.size<=b:=by
    obtain h|h:=h
    .obtain⟨s3,g3,o3,_,L,O⟩:=t b h;exact hs.own _ _ _ b L O
    .exact(X b h).2.1
   obtain c|c:=bt
   .exact D c
   .omega
 have hf:∀ r,sv Z st w r->(∀ s g o,(⟨[],i⟩:St).obj s g=some o->Z'.B s g≠some r)->Z'.M r=none->sv Z2 ⟨st.sl,i++st.hp⟩ w' r:=λr S h1 h2=>by
  refine⟨h2,λs g o j k=>?_,iL S.lt z.keep.size⟩;cases h:ks.contains s
  .rw[fB (F _ h)]at j;rw[(E _ _ h).1]at k;exact S.o _ _ _ j k
  .rw[fB (s1 _ h)]at j;rw[(C _ _ h).1]at k;exact h1 _ _ _ j k
 refine⟨Z2,hh,?_,al,⟨hM,λr hR S=>?_,al⟩,?_⟩
 .cases U with
  | av v=>exact aQ.gU (Z:=Z') (Z2:=Z2) s1 (λ_ _ h=>h) C D ap
  | fr sz es =>
   refine⟨D.1,λb n c ag s g o j k=>?_⟩;cases h:ks.contains s
   .rw[fB (F _ h)]at j;rw[(E _ _ h).1]at k;have f:=u h j k;obtain⟨_,h0⟩|⟨b',_,_,_,_,h0,h1,_⟩:=D.1
    .rw[ag]at h0;cases h0
    .rw[ag]at h0;cases h0;omega
   .rw[fB (s1 _ h)]at j;rw[(C _ _ h).1]at k;exact D.2 b n c ag s g o j k
  | bx sz e us =>
   obtain⟨b,au,aw,T,aq,ys,h1,h2,h3,h4,h5,h6,h7,h8,bk,h9,bb⟩:=D;refine⟨b,au,aw,T,aq,ys,h1,h2,h3,h4,h5,aG.gU (Z:=Z') (Z2:=Z2) s1 (λ_ _ h=>h) C h6 (MT ap),h7,h8,bk,h9,λs g o j k=>?_⟩;cases h:ks.contains s
   .rw[fB (F _ h)]at j;rw[(E _ _ h).1]at k;have f:=u h j k;omega
   .rw[fB (s1 _ h)]at j;rw[(C _ _ h).1]at k;exact bb s g o j k
 .have ad:¬ lH Z ⟨[],hp⟩ r:=λD=>by obtain⟨s3,g3,o3,_,L,O⟩:=t r D;exact S.o _ _ _ L O
  refine⟨hf r S (λs g o j k=>?_) ?_,z.keep.bX r S.lt λc=>c.elim ad hR⟩
  .obtain(c|c)|c:=z.own _ _ _ r j k
   .exact ad c
   .exact hR c
   .have H:w.heap.size<=r:=c;have:=S.lt;omega
  .cases V:Z'.M r with
   | none=>rfl
   | some y =>
    exfalso;obtain c|(c|c)|c:=z.eM r y V
    .have H:Z.M r=some y:=c;rw[S.m]at H;cases H
    .exact ad c
    .exact hR c
    .have H:w.heap.size<=r:=c;have:=S.lt;omega
 .cases bo:o' with
  | none=>trivial
  | some m' =>
   subst bo;obtain⟨g1,g2,g3⟩:=X m'.1 (bu _ rfl);obtain⟨m1,m2,m3⟩:=ao;exact⟨hf _ g1 m1.o m1.m,g2,m3⟩
theorem Po{hp:List Site}{o:Option zaV}(f:∀ s,(hp.map (·.1)).contains s=true->st.site s=look hp s [])(u:dS (hp.map (·.1)) hp=true)(hs:bG K Z st w)(l:qB o K Z st w):bG (oA Z hp o w) Z ⟨[],hp⟩ w/\qB o (oA Z hp o w) Z ⟨[],hp⟩ w:=by
 have n:∀ {s g o},(⟨[],hp⟩:St).obj s g=some o->(hp.map (·.1)).contains s=true:=λ{s g o} i=>by
  cases h:(hp.map (·.1)).contains s with
  | true=>rfl
  | false=>simp[St.obj,St.site,Gk h]at i
 have k:∀ {s g o},(⟨[],hp⟩:St).obj s g=some o->st.obj s g=some o:=λ{s g o} i=>by rw[fB (st2:=st) (st:=⟨[],hp⟩) (f s (n i))];exact i
 refine⟨⟨λs g o i=>oC.gU (st:=st) (st2:=⟨[],hp⟩) (Z2:=Z) (λs h=>(f s h).symm) (λ_ _ h=>h) (λ_ _ _=>⟨rfl,rfl⟩) (n i) (FW u i) (hs.bT s g o (k i)),λs g A t o z b j p=>hs.inj s g A t o z b (k j) (k p),hs.mem,λs g o b j=>hs.sep s g o b (k j),
  λs g o b j r=>.inl (.inl ⟨s,g,o,j,r⟩),λ_ _ h=>h,λ_ _ h=>.inl h,⟨rfl,rfl,rfl,dE _,dE _,λ_ _ _=>rfl⟩⟩,?_⟩
 cases o with
 | none=>trivial
 | some m=>exact⟨⟨l.1.m,λs g o j=>l.1.o s g o (k j),l.1.lt⟩,.inl (.inr rfl),l.2.2⟩
theorem su.take{res:HV}{dd:Nat}{x:Value}{o:Option zaV}{w0:World}(hs:bG K Z st w)(h:su res Z st w0 w x)(A:vU ks res=true)(L:K.w0.heap.size<=w0.heap.size)(hm:qB o K Z st w)(z:∀ b,Au o b->b<w0.heap.size) :
  ∃ Z2 v st2,sO res st dd=(v,st2)/\bG K Z2 st2 w/\aQ Z2 st2 v x/\st2.sl=st.sl/\cP Z st Z2 st2/\(∀ r,r<w0.heap.size->sv Z st w r->sv Z2 st2 w r)/\qB o K Z2 st2 w:=by
 have mk:∀ {Z2:Cz} {B:Option Nat} {c:Nat} {u:AV} {ob:bI},Z2=Z.bR dd (st.site dd).length B c->(∀ b,B=some b->w0.heap.size<=b)->sO res st dd=(u,st.alloc dd ob)->bG K Z2 (st.alloc dd ob) w->aQ Z2 (st.alloc dd ob) u x ->
    ∃ Z2 v st2,sO res st dd=(v,st2)/\bG K Z2 st2 w/\aQ Z2 st2 v x/\st2.sl=st.sl/\cP Z st Z2 st2/\(∀ r,r<w0.heap.size->sv Z st w r->sv Z2 st2 w r)/\qB o K Z2 st2 w:=by
  rintro Z2 B c u ob rfl k l U F;have M:∀ r,r<w0.heap.size->sv Z st w r->sv (Z.bR dd (st.site dd).length B c) (st.alloc dd ob) w r:=λr A G=>by
   refine⟨G.m,λs g o a1 D=>?_,G.lt⟩;rw[lD]at a1;simp only[Cz.bR]at D;by_cases C:s=dd/\g=(st.site dd).length
   .grind
   .rw[bD C]at a1 D;exact G.o _ _ _ a1 D
  refine⟨_,_,_,l,U,F,rfl,cP.alloc _ _ _ _ _ _,M,?_⟩;cases o with
  | none=>trivial
  | some m=>exact⟨M _ (z _ rfl) hm.1,hm.2⟩
 cases res with
 | av v=>exact⟨Z,v,st,rfl,hs,h,rfl,cP.refl Z st,λ_ _ h=>h,hm⟩
 | bx sz e us =>
  simp only[vU,jO,decide_eq_true_eq,beq_iff_eq]at A;obtain⟨⟨j,hp⟩,_⟩:=A;obtain⟨b,cap,cur,T,vals,ys,rfl,F,h3,V,W,X,Y,h8,n,h9,E⟩:=h
  have f:=hs.zE dd ⟨sz,[e]⟩ b cur T cap vals W V (λs g o I=>E s g o I) (.inr (dM L h3)) hp (λx C=>by rw[iT]at C;subst C;exact j)
    (λq hq=>h9 q (by simpa using hq)) (by simpa using X) Y h8 (by simpa using n.1) n.2
  refine mk (u:=.bM (.ptr dd (st.site dd).length 0 0::us.map .p)) (ob:=⟨sz,[e]⟩) rfl (λS k=>by cases k;exact h3) rfl f (.bM _ _ (.cons _ _ _ _ ?_ (aG.lZ F)));have:=aQ.ptr (Z:=Z.bR dd (st.site dd).length (some b) cap) (st:=st.alloc dd ⟨sz,[e]⟩) dd (st.site dd).length 0 0 ⟨sz,[e]⟩ b (by rw[lD,if_pos ⟨rfl,rfl⟩]) (by simp[Cz.bR]);simpa using this
 | fr sz es =>
  simp only[vU,Bool.and_eq_true,decide_eq_true_eq]at A;obtain⟨t,hp⟩:=A;have j:∀ e∈es,e.sz=sz:=λe l=>by simpa using List.all_eq_true.1 t e l
  obtain⟨J,H⟩:=h;obtain⟨rfl,rfl⟩|⟨b,cap,cur,T,vals,rfl,O,r2,r3,r4,r5,r6,R,r8,r9⟩:=J
  .exact mk (u:=.own dd (st.site dd).length 0 0) (ob:=⟨sz,[]⟩) rfl (λb k=>(by cases k)) rfl (hs.iQ dd sz hp) (.d' dd _ ⟨sz,[]⟩ (by rw[lD,aX ⟨rfl,rfl⟩]) (by simp[Cz.bR]))
  .have i:aG Z st ((es.map AV.p).flatMap AV.cells) vals:=by rw[qU];exact aG.lZ r4
   have f:=hs.zE dd ⟨sz,es.map .p⟩ b cur T cap vals r3 r2 (λs g o I=>H b _ _ rfl s g o I) (.inr (dM L O)) hp
     (λe l=>by simp at l;obtain⟨q,hq,rfl⟩:=l;exact j q hq)
     (λq hq=>by rw[qU]at hq;simp only[cA]at hq;obtain⟨u,hu,rfl⟩:=hq;exact r9 u hu)
     i r5 r6 (by simpa using R) r8
   exact mk (u:=.own dd (st.site dd).length 0 es.length) (ob:=⟨sz,es.map .p⟩) rfl (λS k=>by cases k;exact O) rfl f (.own dd _ 0 es.length ⟨sz,es.map .p⟩ b _ cap (by rw[lD,aX ⟨rfl,rfl⟩]) (by simp[Cz.bR]) (λ_=>⟨rfl,by simp[Cz.bR]⟩) (λ_=>by simp) (by simp) R)
end
section
variable {P:Program} {K:Ctx} {Z Z':Cz} {st st':St} {w w':World} {a:Act} {orc:Option bJ} {d:Nat} {v:AV}
theorem lv{α β : Type}{x:Option α}{f : α -> Option β}{b : β}(h:x.bind f=some b):∃ y,x=some y/\f y=some b:=by
 cases x with
 | none=>cases h
 | some y=>exact⟨y,rfl,h⟩
theorem cO{α β : Type}{x:Option α}{f : α -> β}{b : β}(h:x.map f=some b):∃ y,x=some y/\f y=b:=by
 cases x with
 | none=>cases h
 | some y=>exact⟨y,rfl,by simpa using h⟩
def Zg(z:AV):Bool->Option PV->AV
 | false,some u=>.p u
 | false,none=>z
 | true,some u=>.bM [.p u,.p (.bool true)]
 | true,none=>.bM [z,.p (.bool false)]
def Xc{t:TypeId}{m k:Operand}{c:Bool}{o:c7}(A:CP P t m k c=some o)(hs:aN K Z st w a)(f:bY orc st d o=some (v,st')) :
  Good P K Z st ((do pure (Next.value (<- Instr.lookup t (a.eval m) (a.eval k) c)):Sem Next).run P w) v st':=by
 unfold CP at A;split at A
 .rename_i kt et ht;obtain⟨qs,hq,A⟩:=lv A;obtain⟨m',hm,A⟩:=lv A;obtain⟨k',ad,A⟩:=lv A;obtain⟨z,hz,rfl⟩:=cO A;have F:=fH hm hs;have E:=fH ad hs;obtain⟨i,zx,hi,ag,S⟩:=zX hz;obtain⟨W,O⟩:=Qq hq;generalize a.eval m=X at F ⊢;generalize a.eval k=Y at E ⊢
  have V:∀ {r:Nat} {ks G kc:List PV},st.ev m'=.p (.mp r ks G)->st.ev k'=.p (.agg kc)->kA qs kc=true->ks.all (sA qs)=true ->
    ∃ x,(Instr.lookup t X Y c).run P w=.ok x w/\aQ Z st (Zg z c (oE kc ks G)) x:=by
   intro r ks G kc C D L M;rw[C]at F;rw[D]at E;cases F.cF with
   | mp _ _ _ es B m0 m1 m2 m3 m4 m5 =>
    cases E.cF with
    | agg _ al _ s =>
     obtain⟨l,hl⟩:=O L s;have hb:=hs.heap.mem r _ m0;have J:=Mz (λC D=>O C D) M m1;obtain⟨f1,f2⟩:=RB L s M m1 m2 m3;have b:=W.check w es.isEmpty hl;have h:(getObj r).run P w=.ok (.map es B) w:=by simp[getObj,Sem.run,hb]
     have U:(zeroValue et).run P w=.ok zx w:=by simp[zeroValue,typeInfo,hi,ag]
     obtain⟨I,g2⟩|⟨j,e0,I,g2,g3⟩:=W.find w hl es.toList J
     .rw[f1 g2];cases c with
      | false=>exact⟨zx,by simp[Instr.lookup,run_underlying ht,h,b,I,U],S Z st⟩
      | true=>exact⟨.tuple #[zx,.bool false],by simp[Instr.lookup,run_underlying ht,h,b,I,U],.bM _ [zx,.bool false] (.cons _ _ _ _ (S Z st) (.cons _ _ _ _ (.p _ _ (.bool false)) .nil))⟩
     .obtain⟨u,af,R⟩:=f2 j e0 g2 g3;rw[af];cases c with
      | false=>exact⟨e0.val,by simp[Instr.lookup,run_underlying ht,h,b,I],.p _ _ R⟩
      | true=>exact⟨.tuple #[e0.val,.bool true],by simp[Instr.lookup,run_underlying ht,h,b,I],.bM _ [e0.val,.bool true] (.cons _ _ _ _ (.p _ _ R) (.cons _ _ _ _ (.p _ _ (.bool true)) .nil))⟩
  cases c with
  | false =>
   simp only[bY,gP,fQ]at f;split at f
   .rename_i r ks G kc C D;split at f
    .rename_i n;simp only[cD,c5]at f;obtain⟨rfl,rfl⟩:=f;obtain⟨x,e1,H⟩:=V C D n.1 n.2;refine iH (x:=x) (by simp[e1]) hs ?_;cases hf:oE kc ks G<;>rw[hf]at H<;>exact H
    .cases f
   .cases f
  | true =>
   simp only[bY,cH]at f;split at f
   .rename_i r ks G kc C D;split at f
    .rename_i n;simp only[cD,c5]at f;obtain⟨rfl,rfl⟩:=f;obtain⟨x,e1,H⟩:=V C D n.1 n.2;refine iH (x:=x) (by simp[e1]) hs ?_;cases hf:oE kc ks G<;>rw[hf]at H<;>exact H
    .cases f
   .cases f
 .cases A
theorem Sv{l:List Operand}{x:bP}(h:oX l=some [x]):∃ f,l=[f]/\dJ f=some x:=by
 cases l with
 | nil=>simp[oX]at h
 | cons y j =>
  simp only[oX]at h;split at h
  .rename_i p q i b;cases h;cases j with
   | nil=>exact⟨y,rfl,i⟩
   | cons z zs=>simp only[oX]at b;split at b<;>cases b
  .cases h
theorem LM{l:List Operand}{x y:bP}(h:oX l=some [x,y]):∃ j k,l=[j,k]/\dJ j=some x/\dJ k=some y:=by
 cases l with
 | nil=>simp[oX]at h
 | cons a l =>
  simp only[oX]at h;split at h
  .rename_i p q m f;cases h;cases l with
   | nil=>simp[oX]at f
   | cons b l =>
    simp only[oX]at f;split at f
    .rename_i o r n i;cases f;cases l with
     | nil=>exact⟨a,b,rfl,m,n⟩
     | cons c l=>simp only[oX]at i;split at i<;>cases i
    .cases f
  .cases h
def ZG{o:Oper}{i:c7}(j:oD P o.op=some i)(hn:∀ c f,o.op=.call c->c.callee ≠ .value f)(hs:aN K Z st w a)(C:bY orc st d i=some (v,st')):Good P K Z st ((execOp a.eval o).run P w) v st':=by
 unfold execOp;cases Y:o.op<;>rw[Y]at j<;>simp only[oD]at j
 case move x=>obtain⟨y,B,rfl⟩:=cO j;exact T6 B hs C
 case assign x=>obtain⟨y,B,rfl⟩:=cO j;exact T6 B hs C
 case pick c x y =>
  obtain⟨c',B,j⟩:=lv j;obtain⟨O,F,j⟩:=lv j;obtain⟨W,H,rfl⟩:=cO j;exact yb1 B F H hs C
 case alloc e=>obtain⟨z,B,rfl⟩:=cO j;exact W5 B hs C
 case box e x=>obtain⟨y,B,rfl⟩:=cO j;exact yg1 B hs C
 case build t parts =>
  split at j
  .rename_i fs D;obtain⟨pl,B,j⟩:=lv j;obtain⟨z,F,j⟩:=lv j;split at j
   .rename_i S;obtain⟨l,H,rfl⟩:=cO j;exact W6 D B F S H hs C
   .cases j
  .rename_i n e D;obtain⟨ie,B,j⟩:=lv j;obtain⟨z,F,j⟩:=lv j;split at j
   .rename_i S;obtain⟨l,H,rfl⟩:=cO j;exact Yj D B F S H hs C
   .cases j
  .cases j
 case buildSlice t n parts =>
  split at j
  .rename_i e D;obtain⟨z,B,j⟩:=lv j;obtain⟨l,F,rfl⟩:=cO j;exact Yi D B F hs C
  .cases j
 case load t x =>
  obtain⟨y,B,j⟩:=lv j;split at j
  .rename_i J;cases j;exact yb3 B J hs C
  .cases j
 case store t p x =>
  obtain⟨q,B,j⟩:=lv j;obtain⟨y,F,j⟩:=lv j;split at j
  .rename_i J;cases j;have:v=.undef:=by
    simp only[bY]at C
    (repeat' split at C)<;>first|cases C;rfl|cases C
   subst this;exact Xf B F J hs C
  .cases j
 case nilCheck x=>obtain⟨y,B,rfl⟩:=cO j;exact Xd B hs C
 case binOp op t x y t2 =>
  obtain⟨O,B,j⟩:=lv j;obtain⟨W,F,j⟩:=lv j;split at j
  .cases j;exact yb5 B F hs C
  .rename_i D;cases j;exact yb8 D B F hs C
  .rename_i D;exact Xb D B F j hs C
  .obtain⟨ks,H,rfl⟩:=cO j;exact yb9 H B F hs C
 case unOp op t x =>
  obtain⟨O,B,j⟩:=lv j;split at j
  .cases j;exact ygv B hs C
  .cases j;exact ygw B hs C
  .cases j;exact yb4 B hs C
  .cases j
 case convert s t x =>
  obtain⟨O,B,j⟩:=lv j;split at j
  .rename_i F H;cases j;exact yb7 F H B hs C
  .cases j
 case makeFunc fn first al =>
  unfold Ej at j;split at j
  .rename_i f;split at j
   .rename_i h0;obtain⟨l,B,rfl⟩:=cO j;have:first = #[]:=Array.eq_empty_of_size_eq_zero h0
    subst this;exact yb2 B hs C
   .cases j
  .cases j
 case makeSlice t l c =>
  split at j
  .rename_i e D;obtain⟨l',B,j⟩:=lv j;obtain⟨c',F,j⟩:=lv j;obtain⟨z,H,j⟩:=lv j;split at j
   .rename_i hb;cases j;exact U3 D H hb B F hs C
   .cases j
  .cases j
 case slice t x lo hi mx =>
  unfold El at j;split at j
  .cases j
  .split at j
   .rename_i e D;split at j
    .rename_i af;obtain⟨O,B,j⟩:=lv j;obtain⟨ap,F,j⟩:=lv j;obtain⟨ao,H,rfl⟩:=cO j;have X:∀ {y:Option Operand} {W:Option bP},Jj y=some W->(y=none/\W=none)\/∃ l l',y=some l/\W=some l'/\dJ l=some l':=by
      intro y W h;cases y with
      | none=>simp[Jj]at h;exact .inl ⟨rfl,h.symm⟩
      | some l=>obtain⟨l',h4,rfl⟩:=cO h;exact .inr ⟨l,l',rfl,rfl,h4⟩
     exact Xe D af B (X F) (X H) hs C
    .cases j
   .cases j
 case fieldAddr s x f =>
  split at j
  .rename_i fs D;split at j
   .rename_i fd hf;split at j
    .rename_i hp;obtain⟨O,B,rfl⟩:=cO j;exact W8 D hf hp B hs C
    .cases j
   .cases j
  .cases j
 case field s x f =>
  split at j
  .rename_i fs D;split at j
   .rename_i fd hf;split at j
    .rename_i J;obtain⟨O,B,rfl⟩:=cO j;exact W9 D hf J B hs C
    .cases j
   .cases j
  .cases j
 case indexAddr t x i =>
  split at j
  .rename_i e D;split at j
   .rename_i hi;obtain⟨O,B,j⟩:=lv j;obtain⟨i',F,rfl⟩:=cO j;exact Xa D hi B F hs C
   .cases j
  .rename_i n e D;split at j
   .rename_i hi;obtain⟨O,B,j⟩:=lv j;obtain⟨i',F,rfl⟩:=cO j;exact Yk D hi B F hs C
   .cases j
  .cases j
 case index t x i =>
  split at j
  .rename_i n e D;split at j
   .rename_i J;obtain⟨O,B,j⟩:=lv j;obtain⟨i',F,rfl⟩:=cO j;exact ygy D J B F hs C
   .cases j
  .rename_i D;obtain⟨O,B,j⟩:=lv j;obtain⟨i',F,rfl⟩:=cO j;exact yb0 D B F hs C
  .cases j
 case extract x i=>obtain⟨O,B,rfl⟩:=cO j;exact U2 B hs C
 case call c =>
  obtain⟨as,B,j⟩:=lv j;have G:c.args.map a.eval=((c.args.toList).map a.eval).toArray:=by simp[<- Array.toList_map]
  unfold B4 at j;split at j
  .rename_i f E;exact(hn c f Y E).elim
  .cases j
  .rename_i b E;split at j
   .split at j
    .rename_i x;split at j
     .rename_i J;cases j;obtain⟨U,L,M⟩:∃ U,c.args.toList=[U]/\dJ U=some x:=by
       cases V:c.args.toList with
       | nil=>rw[V]at B;simp[oX]at B
       | cons y ys =>
        rw[V]at B;simp only[oX]at B;split at B
        .rename_i p q e1 e2;cases B;cases ys with
         | nil=>exact⟨y,rfl,e1⟩
         | cons z zs=>simp only[oX]at e2;split at e2<;>cases e2
        .cases B
      have:=ygx (args:=c.argTypes) (ty:=o.type) J M hs C;simpa[resolve,E,invoke,builtin,G,L]using this
     .cases j
    .cases j
   .split at j
    .rename_i x y t u H h4;split at j
     .rename_i e D;split at j
      .rename_i I;obtain⟨g1,g2,g3⟩:=I;cases j;obtain⟨U,y0,V,hx,hy⟩:=LM B;obtain⟨z0,R,ag⟩:=Option.map_eq_some_iff.1 g2;have:=Yh (A:=c.argTypes) (ty:=o.type) H h4 D g1 (by rw[R];rfl) g3 (λz S=>by rw[R]at S;cases S;exact ag) hx hy hs C;simpa[resolve,E,invoke,builtin,G,V]using this
      .split at j
       .rename_i I;obtain⟨g1,g2,g3⟩:=I;obtain⟨z0,R,rfl⟩:=cO j;obtain⟨U,y0,V,hx,hy⟩:=LM B;obtain⟨k,hk⟩:∃ k,P.underlying u=some (.int k):=by
         cases ad:P.underlying u with
         | none=>simp[ad,NJ]at g1
         | some d=>cases d<;>simp[ad,NJ]at g1;exact⟨_,rfl⟩
        have:=U1 (A:=c.argTypes) (ty:=o.type) H h4 D hk R g3 hx hy hs C;simpa[resolve,E,invoke,builtin,G,V]using this
       .cases j
     .cases j
    .cases j
   .split at j
    .rename_i x;split at j
     .rename_i J;cases j;obtain⟨U,L,M⟩:=Sv B;have:=yg0 (args:=c.argTypes) (ty:=o.type) J M hs C;simpa[resolve,E,invoke,builtin,G,L]using this
     .cases j
    .cases j
   .split at j
    .rename_i x t H;split at j
     .rename_i e D;obtain⟨z,S,rfl⟩:=cO j;obtain⟨U,L,M⟩:=Sv B;have:=W7 (A:=c.argTypes) (ty:=o.type) H D S M hs C;simpa[resolve,E,invoke,builtin,G,L]using this
     .cases j
    .cases j
   .cases j;simp only[bY]at C;split at C
    .rename_i r hr;simp only[Option.some.injEq,Prod.mk.injEq]at C;obtain⟨rfl,rfl⟩:=C;have:=Qu (P:=P) (mx:=false) (args:=c.argTypes) (ty:=o.type) B hs hr;simpa[resolve,E,invoke,builtin]using this
    .cases C
   .cases j;simp only[bY]at C;split at C
    .rename_i r hr;simp only[Option.some.injEq,Prod.mk.injEq]at C;obtain⟨rfl,rfl⟩:=C;have:=Qu (P:=P) (mx:=true) (args:=c.argTypes) (ty:=o.type) B hs hr;simpa[resolve,E,invoke,builtin]using this
    .cases C
   .cases j
 case lookup t m k b=>exact Xc j hs C
 all_goals first|(cases j;done)|(cases j;simp only[bY]at C;cases C)
def Gq{f:FuncId}{args:Array Value}(h:∃ b,P.funcs[f]?=some b/\b.body.isSome=true/\b.name ≠ "runtime.NumGoroutine"):(callFunc f args).run P w=.ok (.enter f args) w:=by obtain⟨b,i,j,k⟩:=h;simp[callFunc,i,k];intro l;simp[l]at j
def bJ.ok(P:Program)(c:bJ):Prop :=
 match c.res with
 | .oo vs hp res iO=>kU P c.f vs hp none res iO none
 | _=>match c.tn with
  | none=>Sp P c.f c.args c.res
  | some (i,sz,b)=>gO P c.f c.args i sz b c.res
def Gs{f:FuncId}{vs:List AV}(b:xR orc st d f vs=some (v,st')):∃ c,orc=some c/\f=c.f/\BD c st vs/\zL c st d vs=some (v,st'):=by
 unfold xR at b;split at b
 .rename_i c;by_cases h:f=c.f/\BD c st vs
  .rw[aX h]at b;exact⟨c,rfl,h.1,h.2,b⟩
  .rw[bD h]at b;cases b
 .cases b
def BC:RV->Bool
 | .oo _ _ _ _=>true
 | _=>false
def z51{c:bJ}(h:BC c.res=false)(st:St)(vs:List AV):BD c st vs=(vs.mapM (bH st bF)=some c.args):=by unfold BD;cases b:c.res<;>first|rfl|(rw[b]at h;cases h)
def Nj{c:bJ}(h:BC c.res=false)(st:St)(d:Nat)(vs:List AV):zL c st d vs=match c.tn with|none=>zN c st d (vs.flatMap (aS st bF))|some (i,sz,b)=>AG c i sz b st vs:=by unfold zL;cases f:c.res<;>first|rfl|(rw[f]at h;cases h)
def Zj{c:bJ}(h:BC c.res=false):bJ.ok P c=match c.tn with|none=>Sp P c.f c.args c.res|some (i,sz,b)=>gO P c.f c.args i sz b c.res:=by unfold bJ.ok;cases j:c.res<;>first|rfl|(rw[j]at h;cases h)
theorem Ic{α β : Type}{f : α -> Option β}:∀ {xs:List α} {r:List β},xs.mapM f=some r->∀ (j:Nat) (x : α),xs[j]?=some x->∃ y,r[j]?=some y/\f x=some y
 | [],r,_,j,x,b=>by simp at b
 | z::xs,r,h,j,x,b=>by
  obtain⟨y,l,i,k,rfl⟩:=EJ h;cases j with
  | zero=>simp at b;subst b;exact⟨y,rfl,i⟩
  | succ j=>simpa using Ic k j x (by simpa using b)
theorem z85{n s g off b:Nat}:bH st (n+1) (.own s g off b)=match st.obj s g with
  | some o=>if off+b<=o.es.length then(((o.es.drop off).take b).mapM (bH st n)).map .sl else none
  | none=>none:=rfl
theorem W2{n s g b off:Nat}:bH st (n+1) (.ptr s g b off)=if b=0/\off=0 then match st.obj s g with
   | some o=>match o.es with
    | [e]=>(bH st n e).map .ref
    | _=>none
   | none=>none
   else none:=rfl
def yba{vs:List AV}{vals:List Value}{args:List PV}{s g E i:Nat}{sl:Bool}{o:bI}{ids:List (Nat × Nat)}(hs:bG K Z st w)(V:aG Z st vs vals)(U:vs.mapM (bH st bF)=some args)(A:BH vs[i]?=some (s,g,E,sl))(r:st.obj s g=some o)(l:E=o.es.length)
  (u:ids=(vs.eraseIdx i).flatMap (aS st bF)++o.es.flatMap (aS st 5)) (J:(s,g)∉ids) :
  ∃ es,sr (Mx Z st w ids) w (Z.B s g) (Z.cap s g) o.sz es/\es.length=o.es.length/\∀ p,args[i]?=some p->∃ x,vals[i]?=some x/\DK p es (Z.B s g) (Z.cap s g) x:=by
 have m:=hs.bT s g o r;have D:∀ es,o.es.mapM (bH st 5)=some es->sr (Mx Z st w ids) w (Z.B s g) (Z.cap s g) o.sz es:=by
  intro es j;have l:=CT j;cases k:Z.B s g with
  | none =>
   have h0:=m.x5 k;rw[h0]at j;have:=EH j;subst this;exact⟨m.pos,by simp,by simp,λ_=>rfl,λb k=>by cases k⟩
  | some b =>
   obtain⟨G,T,vals,k1,k2,k3,k4,k5,k6⟩:=m.bX b k;obtain⟨r1,r2,r3⟩:=Gi (w:=w) (n:=5) (ids:=ids) m.pos (BN hs ids 5) k2 j m.iI m.one (λi hi=>by rw[u];exact dN.2 (.inr hi));refine⟨m.pos,r2,r3,λ(h:some b=none)=>(by cases h),λb' H=>?_⟩;cases H;refine⟨?_,G,T,vals,k1,r1,k3,k4,by omega,k6⟩;cases I:Mx Z st w ids b with
   | none=>rfl
   | some y =>
    exfalso;obtain h|⟨_,_,s',g',ob,W,X,Y⟩:=rM I
    .rw[hs.sep s g o b r k]at h;cases h
    .obtain⟨rfl,rfl⟩:=hs.inj s g s' g' o ob b r X k Y;exact J W
 obtain⟨C,_⟩|⟨C,af,_⟩:=Rb A
 .obtain⟨p,M,f⟩:=Ic U i _ C;obtain⟨x,O,t⟩:=V.get i _ C;rw[bF,z85]at f;simp only[r,sG,Ae]at f;rw[aX (by omega),eZ (by omega)]at f;obtain⟨es,j,rfl⟩:=wL.1 f;have S:=CT j;refine⟨es,D es j,S,λq F=>⟨x,O,?_⟩⟩;rw[M]at F;cases F;refine .inl ⟨rfl,?_⟩;cases t with
  | d' _ _ o' L k=>rw[k]
  | own _ _ _ _ o' b ad c L k h1 h2 h3 h4 =>
   obtain⟨rfl,rfl⟩:=h1 rfl;rw[k,S,<- l]
  | eO _ _ _ _ _ _ _ hd=>exact(uH r hd).elim
 .obtain⟨p,M,f⟩:=Ic U i _ C;obtain⟨x,O,t⟩:=V.get i _ C;rw[bF,W2]at f;simp only[r,and_self,cH]at f;split at f
  .rename_i e R;obtain⟨q,F,rfl⟩:=wL.1 f;refine⟨[q],D [q] (by rw[R];simp[F]),by rw[R];rfl,λq' z=>⟨x,O,?_⟩⟩;rw[M]at z;cases z;obtain⟨b,k,rfl⟩:=BV t r;exact .inr ⟨q,b,rfl,rfl,k,by simp⟩
  .cases f
theorem yg6{o:Oper}{i:c7}{J:Call}{f:Operand}(hc:oD P o.op=some i)(ag:o.op=.call J)(hf:J.callee=.value f)(hs:aN K Z st w a)(X:bY orc st d i=some (v,st'))(ao:∀ c,orc=some c->c.ok P)
  {next:Act->World->Prop} {Q:Exit->Act->World->Prop} (E:∀ w' Z' x,bG K Z' st' w'->aQ Z' st' v x->cP Z st Z' st'->next (a.put o.dst x) w'):o.wp P a w next Q:=by
 obtain⟨as,al,z⟩:∃ as,oX J.args.toList=some as/\B4 P J.callee J.argTypes as=some i:=by rw[ag]at hc;simp only[oD]at hc;obtain⟨as,S,U⟩:=lv hc;exact⟨as,S,U⟩
 have hr:=CJ al hs;have W:J.args.map a.eval=((J.args.toList).map a.eval).toArray:=by simp[<- Array.toList_map]
 obtain⟨c,m,n,ad,bk,bb,M,l⟩:∃ (c:bJ) (m:List AV) (n:List Value),orc=some c/\a.eval f=.func (.func c.f) #[] n.toArray/\aG Z st m n /\
   BD c st (as.map st.ev++m)/\zL c st d (as.map st.ev++m)=some (v,st'):=by
  rw[hf]at z;simp only[B4]at z;split at z
  .rename_i g hg;cases z;have C:=fH hg hs;simp only[St.ev]at C;simp only[bY]at X;obtain⟨c,S,U,h3,h4⟩:=Gs X;subst U;have H:=C.cF;generalize a.eval f=F at H ⊢;cases H with
   | fn _ _ I h=>cases h;exact⟨c,[],[],S,rfl,.nil,by simpa using h3,by simpa using h4⟩
  .rename_i f' hg;cases z;have C:=fH hg hs;simp only[bY]at X;split at X
   .rename_i g m Y;rw[Y]at C;obtain⟨c,S,U,h3,h4⟩:=Gs X;subst U;have H:=C.cF;generalize a.eval f=F at H ⊢;cases H with
    | fn _ _ I h=>exact⟨c,m.map .p,I,S,rfl,aG.lZ h,h3,h4⟩
   .rename_i g m Y;rw[Y]at C;obtain⟨c,S,U,h3,h4⟩:=Gs X;subst U;generalize a.eval f=F at C ⊢;cases C with
    | fn _ _ I h=>exact⟨c,m,I,S,rfl,h,h3,h4⟩
   .cases X
  .cases z
 have A:=ao c ad;have r:=hr.append bb;have L:(∃ fn,P.funcs[c.f]?=some fn/\fn.body.isSome=true/\fn.name ≠ "runtime.NumGoroutine")->(execOp a.eval o).run P w=.ok (.enter c.f ((J.args.toList.map a.eval++n).toArray)) w:=by
  intro D;have:=Gq (P:=P) (w:=w) (args:=(J.args.toList.map a.eval++n).toArray) D;simp only[execOp,ag,resolve,hf,bk,Deferred.ofValue,mW,oJ,qF,invoke];have e : #[]++J.args.map a.eval++n.toArray=(J.args.toList.map a.eval++n).toArray:=by rw[W];simp
  rw[e];exact this
 unfold Oper.wp;cases hH:BC c.res with
 | true =>
  unfold bJ.ok at A;unfold zL at l;unfold BD at M;cases ap:c.res with
  | oo ct H ce cn =>
   rw[ap]at A l M;simp only at A l M;obtain⟨rfl,_,hk,bo,O⟩:=M;obtain⟨D,oo⟩:=A;rw[L D,E2];simp only[jO]at O;obtain⟨⟨⟨r1,r2⟩,r3⟩,r4⟩:=O;have G:∀ s,(H.map (·.1)).contains s=true->st.site s=look H s []:=λs hs=>by obtain⟨q,hq,rfl⟩:=cA.1 (E3.1 hs);exact IG hk q hq
   obtain⟨u1,u2⟩:=Po (o:=none) G r2 hs.heap trivial;refine(oo Z w _ u1 u2 (aG.gU (st:=st) (st2:=⟨[],H⟩) (Z2:=Z) (λs h=>(G s h).symm) (λ_ _ h=>h) (λ_ _ _=>⟨rfl,rfl⟩) r r1)).mono ?_;rintro e w' ⟨x,Z',rfl,p1,p2,p3,p4⟩;obtain⟨Z2,q1,q2,q3,q4,q5⟩:=Qo rfl bo G r4 (by cases ce with|av v=>exact r3|fr _ _=>rfl|bx _ _ _=>exact(Bool.and_eq_true_iff.1 r3).2) hs.heap (o:=none) (o':=none) trivial p1 p2 p3 p4;obtain⟨Z3,v1,cs,e1,t1,t2,t3,t4,t5,t6⟩:=su.take (dd:=d) q1 q2 r3 hs.heap.keep.size q5 (λb hb=>hb.elim);rw[e1]at l;simp only[cD,c5]at l;obtain⟨rfl,rfl⟩:=l;exact E w' Z3 x t1 t2 (q3.trans t4)
  | _=>rw[ap]at hH;cases hH
 | false =>
 rw[z51 hH]at M;rw[Nj hH]at l;rw[Zj hH]at A;cases aw:c.tn with
 | none =>
  rw[aw]at A l;obtain⟨D,oo⟩:=A;rw[L D,E2];have H:=Gc (w:=w) (BN hs.heap ((as.map st.ev++m).flatMap (aS st bF)) bF) r M (λi hi=>hi);refine(oo w _ _ (λb ob hb=>?_) H).mono ?_
  .obtain h|⟨_,h,_⟩:=rM hb
   .exact hs.heap.mem b ob h
   .exact h
  .rintro e w' ⟨x,M',rfl,p1,p2,p3,p4,p5⟩;obtain⟨Z',q1,q2,q3⟩:=Pp (vs:=as.map st.ev++m) hs.heap p1 p2 p3 p4 p5 l;exact E w' Z' x q1 q2 q3
 | some t =>
  obtain⟨i,sz,cf⟩:=t;rw[aw]at A l;obtain⟨D,oo⟩:=A;simp only at oo l;rw[L D,E2];obtain⟨s,g,cp,sl,ob,aq,ho,hi,R,cm,au,af,hv,bt⟩:=Rr l;generalize co:as.map st.ev++m=vs at *
  obtain⟨es,m1,m2,m3⟩:=yba hs.heap r M aq ho R rfl af;rw[au]at m1;have V:vs.length=c.args.length:=(CT M).symm;have ca:(J.args.toList.map a.eval++n).length=c.args.length:=by rw[<- V];exact r.length
  refine(oo w _ _ (Z.B s g) (Z.cap s g) es (λb ob hb=>?_) ca m3 (by rw[<- V];exact hi) m1 (λj p hj H=>?_)).mono ?_
  .obtain h|⟨_,h,_⟩:=rM hb
   .exact hs.heap.mem b ob h
   .exact h
  .obtain⟨u,hu⟩:∃ u,vs[j]?=some u:=by
    have:j<vs.length:=by rw[V];exact(iU.1 H).1
    exact⟨vs[j],dO this⟩
   obtain⟨q,hq,bu⟩:=Ic M j u hu;rw[H]at hq;cases hq;obtain⟨x,hx,br⟩:=r.get j u hu;refine⟨x,hx,BN hs.heap _ bF u x p br bu (λk hk=>dN.2 (.inl (kC.2 ⟨u,?_,hk⟩)))⟩;rw[List.mem_eraseIdx_iff_getElem?];exact⟨j,hj,hu⟩
  .rintro e w' ⟨x,M',rfl,p1,p2,p3,p4,p5,p6,p7⟩;obtain⟨Z',q1,q2,q3⟩:=YE (vs:=vs) hs.heap ho R au af p1 p2 p3 p4 (by rw[p5,m2]) p6 (by rw[m2]at p7;exact p7) hv bt;exact E w' Z' x q1 q2 q3
end
def jC:AV->List Nat
 | .own s _ _ _=>[s]
 | .ptr s _ _ _=>[s]
 | _=>[]
def bP.aY:bP->List Nat
 | .t n=>[n]
 | .c _=>[]
def iJ:Option bP->List bP
 | some x=>[x]
 | none=>[]
def c7.bZ:c7->List bP
 | .mv x | .box _ x | .load _ _ x | .bV x | .not x | .neg x | .tA x | .conv _ x | .iP _ x | .field _ _ _ x | .extract x _ | .len x | .ic _ x | .cap x | .clear _ _ x=>[x]
 | .pick c a b=>[c,a,b]
 | .alloc _ _ | .raw _ | .bad=>[]
 | .build _ ps=>ps.map (·.2.2)
 | .b4 _ _ _ ps=>ps.map (·.2)
 | .store _ a v | .dI _ a v | .gJ _ a v | .j' _ _ a v | .cM _ _ a v | .cG _ a v | .cB _ _ a v | .idx _ _ _ a v | .append _ a v | .fE _ _ a v | .qK a v | .mr _ _ a v | .jY _ _ a v=>[a,v]
 | .gT _ iF=>iF
 | .slice _ x lo hi=>x::(iJ lo++iJ hi)
 | .min xs | .max xs=>xs
 | .call _ args=>args
 | .iv f args=>f::args
def xQ(st:St):c7->List AV
 | .call _ args=>args.map st.ev
 | .iv x args=>match st.ev x with
  | .p (.fn _ b)=>args.map st.ev++b.map .p
  | .fn _ b=>args.map st.ev++b
  | _=>[]
 | _=>[]
def vX(orc:Option bJ)(st:St)(vs:List AV):List Nat :=
 match orc with
 | some c=>match c.res with
  | .oo _ b _ _=>b.map (·.1)
  | _=>(vs.flatMap (aS st bF)).map (·.1)
 | none=>(vs.flatMap (aS st bF)).map (·.1)
def ek(orc:Option bJ)(st:St)(d:Nat)(b:c7):List Nat :=
 match b with
 | .alloc _ _ | .box _ _ | .b4 _ _ _ _ | .cM _ _ _ _ | .fE _ _ _ _=>[d]
 | .load _ _ x | .bV x | .iP _ x | .slice _ x _ _ | .cG _ x _ | .cB _ _ x _ | .ic _ x | .clear _ _ x=>jC (st.ev x)
 | .store _ a _=>jC (st.ev a)
 | .append _ a x=>d::(jC (st.ev a)++jC (st.ev x))
 | .call _ _ | .iv _ _=>d::vX orc st (xQ st b)
 | _=>[]
def Bz(orc:Option bJ)(d:Nat)(ids:List Nat):List Nat :=
 match orc with
 | some c=>match c.res with
  | .oo _ _ _ _=>d::ids
  | _=>match c.tn with
   | some _=>d::ids
   | none=>(if c.res.flat then[]else ids)++(match c.res with | .fresh _ _=>[d]|_=>[])
 | none=>[]
def gV(orc:Option bJ)(st:St)(d:Nat)(b:c7):List Nat :=
 match b with
 | .alloc _ _ | .box _ _ | .b4 _ _ _ _ | .cM _ _ _ _ | .fE _ _ _ _=>[d]
 | .store _ a _=>jC (st.ev a)
 | .clear _ _ a=>jC (st.ev a)
 | .append _ a _=>d::jC (st.ev a)
 | .call _ _ | .iv _ _=>Bz orc d (vX orc st (xQ st b))
 | _=>[]
section
variable {orc:Option bJ} {st st' st2:St} {d:Nat} {v:AV}
def Gu{o:bI}{s:Nat}(h:st2.site d=st.site d)(hs:s=d\/st2.site s=st.site s):(st2.alloc d o).site s=(st.alloc d o).site s:=by
 rw[vG,vG,h];split
 .rfl
 .grind
theorem QS:∀ (n:Nat) (u:AV),(∀ i∈aS st n u,st2.site i.1=st.site i.1)->bH st2 n u=bH st n u/\aS st2 n u=aS st n u
 | 0,_,_=>⟨rfl,rfl⟩
 | n+1,u,h=>by
  have H:=QS n;have b:∀ (l:List AV),(∀ i∈l.flatMap (aS st n),st2.site i.1=st.site i.1)->l.mapM (bH st2 n)=l.mapM (bH st n)/\l.flatMap (aS st2 n)=l.flatMap (aS st n):=by
   intro l
   induction l with
   | nil=>intro _;exact⟨rfl,rfl⟩
   | cons x R F =>
    intro h;obtain⟨I,J⟩:=H x (λi m=>h i (by simp only[jG,dN];exact .inl m));obtain⟨k,j⟩:=F (λi m=>h i (by simp only[jG,dN];exact .inr m));exact⟨by rw[Cg,Cg,I,k],by rw[jG,jG,J,j]⟩
  cases u with
  | p v=>exact⟨rfl,rfl⟩
  | nil=>exact⟨rfl,rfl⟩
  | skip=>exact⟨rfl,rfl⟩
  | undef=>exact⟨rfl,rfl⟩
  | cp v L t=>exact⟨rfl,rfl⟩
  | agg z=>obtain⟨k,j⟩:=b z h;exact⟨by simp only[bH,k],j⟩
  | bM z=>obtain⟨k,j⟩:=b z h;exact⟨by simp only[bH,k],j⟩
  | fn f z=>obtain⟨k,j⟩:=b z h;exact⟨by simp only[bH,k],j⟩
  | own s g t G =>
   have D:st2.obj s g=st.obj s g:=fB (h (s,g) (by simp[aS]));simp only[bH,aS,D]at h ⊢;cases r:st.obj s g with
   | none=>exact⟨rfl,rfl⟩
   | some o =>
    simp only[r,cI,forall_eq_or_imp]at h;obtain⟨k,j⟩:=b o.es h.2;obtain⟨A,_⟩:=b ((o.es.drop t).take G) (λi m=>h.2 i (by
     obtain⟨e,B,C⟩:=kC.1 m;exact kC.2 ⟨e,kD (iC B),C⟩))
    exact⟨by simp only[A],by simp only[j]⟩
  | ptr s g M t =>
   have D:st2.obj s g=st.obj s g:=fB (h (s,g) (by simp[aS]));simp only[bH,aS,D]at h ⊢;cases r:st.obj s g with
   | none=>exact⟨rfl,rfl⟩
   | some o =>
    simp only[r,cI,forall_eq_or_imp]at h;obtain⟨k,j⟩:=b o.es h.2;refine⟨?_,by simp only[j]⟩;split
    .split
     .rename_i O E;cases E;split
      .rename_i e B;rw[B]at h;obtain⟨A,_⟩:=H e (λi m=>h.2 i (by simp[m]));rw[A]
      .rfl
     .rfl
    .rfl
theorem C5:∀ (ids:List (Nat × Nat)) {st st2:St} {s:Nat},st2.site s=st.site s->(aI st2 ids).site s=(aI st ids).site s
 | [],_,_,_,h=>h
 | (b,g)::r,st,st2,s,h=>by
  rw[I7,I7];refine C5 r ?_;rw[Ge,Ge];split
  .grind
  .omega
theorem C6:∀ (ids:List (Nat × Nat)) {st:St} {s:Nat},s∉ids.map (·.1)->(aI st ids).site s=st.site s
 | [],_,_,_=>rfl
 | (b,g)::r,st,s,h=>by
  rw[I7,C6 r (by simp at h ⊢;exact h.2),Ge]
  grind
def pJ(st st' st2 b:St)(R W:List Nat):Prop :=
 (∀ s,s∈W->b.site s=st'.site s)/\(∀ s,s∉W->b.site s=st2.site s)/\(∀ s,s∉W->st'.site s=st.site s)/\b.sl=st2.sl/\st'.sl=st.sl/\(∀ s∈W,s∈R)
def iR{R:List Nat}:pJ st st st2 st2 R []:=⟨by simp,by simp,by simp,rfl,rfl,by simp⟩
def C0{R:List Nat}{o:bI}(h:st2.site d=st.site d)(f:d∈R):pJ st (st.alloc d o) st2 (st2.alloc d o) R [d]:=by
 refine⟨λs b=>?_,λs b=>?_,λs b=>?_,rfl,rfl,by simpa using f⟩
 .simp at b;exact Gu h (.inl b)
 .simp at b;rw[vG,bD b]
 .simp at b;rw[vG,bD b]
def VH{c:bJ}{ids:List (Nat × Nat)}(hn:c.tn=none)(j:zN c st d ids=some (v,st'))(z:∀ i∈ids,st2.site i.1=st.site i.1)(hd:st2.site d=st.site d) :
  ∃ l,zN c st2 d ids=some (v,l)/\pJ st st' st2 l (d::ids.map (·.1)) (Bz (some c) d (ids.map (·.1))):=by
 have p:∀ s∈ids.map (·.1),st2.site s=st.site s:=λs b=>by obtain⟨i,r,rfl⟩:=cA.1 b;exact z i r
 have m:(aI st2 ids).site d=(aI st ids).site d:=C5 ids hd
 have f:pJ st (aI st ids) st2 (aI st2 ids) (d::ids.map (·.1)) (ids.map (·.1)) :=
  ⟨λs b=>C5 ids (p s b),λs b=>C6 ids b,λs b=>C6 ids b,A9 ids st2,A9 ids st,λs b=>by simp only[cI];exact .inr b⟩
 obtain⟨A,n,k,C⟩:=c;subst hn;by_cases t:BC k=true
 .cases k with
  | oo=>simp[zN]at j
  | _=>cases t
 unfold zN at j ⊢;unfold Bz;dsimp only at j ⊢;generalize B:k.flat=u at j ⊢;cases u<;>cases k<;>(try exact absurd rfl t)<;>dsimp only at j ⊢ <;> simp only[cH,fQ,gP]at j ⊢
 .grind
 .split at j
  .rename_i o;obtain⟨rfl,rfl⟩:=j;refine⟨(aI st2 ids).alloc d _,by rw[aX o,m],λs b=>?_,λs b=>?_,λs b=>?_,A9 ids st2,A9 ids st,λs b=>?_⟩
   .obtain h|h:=dN.1 b
    .exact Gu m (.inr (f.1 s h))
    .simp at h;exact Gu m (.inl h)
   .simp only[dN,iT,not_or]at b;rw[vG,bD b.2];exact f.2.1 s b.1
   .simp only[dN,iT,not_or]at b;rw[vG,bD b.2];exact f.2.2.1 s b.1
   .grind
  .grind
 .grind
 .simp at j;obtain⟨rfl,rfl⟩:=j;exact⟨_,rfl,iR⟩
 .split at j
  .rename_i o;obtain⟨rfl,rfl⟩:=j;exact⟨st2.alloc d _,by rw[aX o,hd],C0 hd (by simp)⟩
  .grind
 .grind
theorem EL{n:Nat}:∀ {vs:List AV},(∀ i∈vs.flatMap (aS st n),st2.site i.1=st.site i.1)->vs.flatMap (aS st2 n)=vs.flatMap (aS st n)/\vs.mapM (bH st2 n)=vs.mapM (bH st n)
 | [],_=>⟨rfl,rfl⟩
 | x::f,h=>by
  obtain⟨j,k⟩:=QS n x (λi b=>h i (by simp;exact .inl b));obtain⟨l,m⟩:=EL (vs:=f) (λi b=>h i (by simp only[jG,dN];exact .inr b))
  grind
def VN{c:bJ}{i sz:Nat}{b:List PV}{vs:List AV}(C:AG c i sz b st vs=some (v,st'))(M:∀ i∈vs.flatMap (aS st bF),st2.site i.1=st.site i.1) :
  ∃ E,AG c i sz b st2 vs=some (v,E)/\pJ st st' st2 E (d::(vs.flatMap (aS st bF)).map (·.1)) ((vs.flatMap (aS st bF)).map (·.1)):=by
 obtain⟨s,g,L,sl,o,D,O,af,X,ad,al,ag,hv,H⟩:=Rr C;have B:∃ u,vs[i]?=some u/\aS st bF u=(s,g)::o.es.flatMap (aS st 5):=by
  obtain⟨B,_⟩|⟨B,_,_⟩:=Rb D
  .exact⟨_,B,by simp only[bF,aS,O]⟩
  .exact⟨_,B,by simp only[bF,aS,O]⟩
 obtain⟨u,B,R⟩:=B;have z:∀ k∈(s,g)::o.es.flatMap (aS st 5),k∈vs.flatMap (aS st bF):=λk f=>kC.2 ⟨u,wM B,by rw[R];exact f⟩;have U:=M (s,g) (z _ (by simp));have S:st2.obj s g=some o:=by rw[fB U];exact O
 have I:∀ k∈(vs.eraseIdx i).flatMap (aS st bF),k∈vs.flatMap (aS st bF):=λk f=>by obtain⟨y,hy,f⟩:=kC.1 f;exact kC.2 ⟨y,List.mem_of_mem_eraseIdx hy,f⟩
 have Y:=(EL (st2:=st2) (n:=bF) (vs:=vs.eraseIdx i) (λk f=>M k (I k f))).1;have e2:=(EL (st2:=st2) (n:=5) (vs:=o.es) (λk f=>M k (z k (by simp only[cI];exact .inr f)))).1;have r:∀ k∈(vs.eraseIdx i).flatMap (aS st bF)++o.es.flatMap (aS st 5),k∈vs.flatMap (aS st bF):=λk f=>by
  obtain h|h:=dN.1 f
  .grind
  .grind
 refine⟨EO c b st2 ((vs.eraseIdx i).flatMap (aS st bF)++o.es.flatMap (aS st 5)) s g sz,?_,?_⟩
 .unfold AG at C ⊢;rw[D]at C ⊢;simp only[O,S,Y,e2]at C ⊢;generalize F:(vs.eraseIdx i).flatMap (aS st bF)++o.es.flatMap (aS st 5)=ids at C H ⊢;by_cases W:i<vs.length/\L=o.es.length/\b.length=L/\o.sz=sz/\b.all (λv=>v.sz == sz)=true/\(b.flatMap PV.cells).all PV.one=true/\ids.contains (s,g)=false
  .rw[aX W]at C ⊢;obtain⟨u,B,rfl⟩|⟨l,hl,h1,h2,rfl⟩:=hv
   .rw[B]
   .rw[hl];simp only[h1,h2,and_self,cH]
  .rw[bD W]at C;cases C
 .generalize F:(vs.eraseIdx i).flatMap (aS st bF)++o.es.flatMap (aS st 5)=ids at *
  have G:∀ t,t∉(vs.flatMap (aS st bF)).map (·.1)->t∉ids.map (·.1):=λt j h=>by obtain⟨k,f,rfl⟩:=cA.1 h;exact j (cA.2 ⟨k,r k f,rfl⟩)
  have J:∀ t,t∉(vs.flatMap (aS st bF)).map (·.1)->t≠s:=λt j h=>j (cA.2 ⟨(s,g),z _ (by simp),h.symm⟩);have A:∀ t∈(vs.flatMap (aS st bF)).map (·.1),st2.site t=st.site t:=λt j=>by obtain⟨k,f,rfl⟩:=cA.1 j;exact M k f
  have p:∀ (x:St) (t:Nat) (o:bI),(x.setObj s g o).site t=if t=s then(x.site s).set g (some o)else x.site t:=λx t o=>by rw[uI]
  subst H;unfold EO;refine⟨λt j=>?_,λt j=>?_,λt j=>?_,?_,?_,λt j=>by simp only[cI];exact .inr j⟩
  .rw[p,p];have V:=A t j;by_cases m:(c.res.flat&&b.all PV.flat)=true
   .simp only[m,cH];rw[V,U]
   .simp only[m,fQ,gP];rw[C5 ids U,C5 ids V]
  .rw[p,bD (J t j)];by_cases m:(c.res.flat&&b.all PV.flat)=true
   .simp only[m,cH]
   .simp only[m,fQ,gP];exact C6 ids (G t j)
  .rw[p,bD (J t j)];by_cases m:(c.res.flat&&b.all PV.flat)=true
   .simp only[m,cH]
   .simp only[m,fQ,gP];exact C6 ids (G t j)
  .by_cases m:(c.res.flat&&b.all PV.flat)=true
   .simp only[m,cH];rfl
   .simp only[m,fQ,gP];exact A9 ids st2
  .by_cases m:(c.res.flat&&b.all PV.flat)=true
   .simp only[m,cH];rfl
   .simp only[m,fQ,gP];exact A9 ids st
theorem M1{f:FuncId}{vs:List AV}(he:xR orc st d f vs=some (v,st'))(A:∀ s∈vX orc st vs,st2.site s=st.site s)(hd:st2.site d=st.site d) :
  ∃ j,xR orc st2 d f vs=some (v,j)/\pJ st st' st2 j (d::vX orc st vs) (Bz orc d (vX orc st vs)):=by
 obtain⟨c,rfl,rfl,M,k⟩:=Gs he;cases D:BC c.res with
 | true =>
  obtain⟨Y,C,F,L⟩:=c;cases F with
  | oo af l E b =>
   simp only[vX,Bz]at A ⊢;obtain⟨rfl,hu,hk,H,G⟩:=M;have R:qA st2 l l:=by
    have:∀ (r:List Site),(∀ q∈r,q.1∈l.map (·.1))->qA st l r->qA st2 l r:=by
     intro r
     induction r with
     | nil=>intro _ _;trivial
     | cons q r ih =>
      intro h1 h2;exact⟨(A q.1 (h1 q (by simp))).trans h2.1,ih (λx hx=>h1 x (by simp[hx])) h2.2⟩
    grind
   have I:xR (some ⟨Y,C,.oo vs l E b,L⟩) st2 d Y vs=some (sO E ⟨st2.sl,b++st2.hp⟩ d):=aX ⟨rfl,rfl,hu,R,H,G⟩;rw[I];have m:∀ (t:St) (s:Nat),(⟨t.sl,b++t.hp⟩:St).site s=if (l.map (·.1)).contains s=true then look b s []else t.site s:=λt s=>by simp only[St.site,CS,H]
   have n:∀ s,s∈l.map (·.1)\/s=d->(⟨st2.sl,b++st2.hp⟩:St).site s=(⟨st.sl,b++st.hp⟩:St).site s:=λs hs=>by
    rw[m,m];by_cases hc:(l.map (·.1)).contains s=true
    .grind
    .grind
   have p:∀ (t:St) (s:Nat),s∉l.map (·.1)->(⟨t.sl,b++t.hp⟩:St).site s=t.site s:=λt s hs=>by
    grind
   have gen:∀ (o:bI),pJ st ((⟨st.sl,b++st.hp⟩:St).alloc d o) st2 ((⟨st2.sl,b++st2.hp⟩:St).alloc d o) (d::l.map (·.1)) (d::l.map (·.1)):=λo=>by
    refine⟨λs hs=>?_,λs hs=>?_,λs hs=>?_,rfl,rfl,λs hs=>hs⟩
    .rw[vG,vG,n s (by obtain h|h:=cI.1 hs;exact .inr h;exact .inl h),n d (.inr rfl)]
    .simp only[cI,not_or]at hs;rw[vG,bD hs.1];exact p _ s hs.2
    .simp only[cI,not_or]at hs;rw[vG,bD hs.1];exact p _ s hs.2
   have B:((⟨st2.sl,b++st2.hp⟩:St).site d).length=((⟨st.sl,b++st.hp⟩:St).site d).length:=by rw[n d (.inr rfl)]
   simp only[cD]at k ⊢;cases E with
   | av u =>
    simp only[sO,c5]at k ⊢;obtain⟨rfl,rfl⟩:=k;refine⟨_,⟨rfl,rfl⟩,λs hs=>?_,λs hs=>?_,λs hs=>?_,rfl,rfl,λs hs=>hs⟩
    .exact n s (by obtain h|h:=cI.1 hs;exact .inr h;exact .inl h)
    .simp only[cI,not_or]at hs;exact p _ s hs.2
    .simp only[cI,not_or]at hs;exact p _ s hs.2
   | fr sz es =>
    simp only[sO,c5]at k ⊢;obtain⟨rfl,rfl⟩:=k;exact⟨_,⟨by rw[B],rfl⟩,gen _⟩
   | bx sz e us =>
    simp only[sO,c5]at k ⊢;obtain⟨rfl,rfl⟩:=k;exact⟨_,⟨by rw[B],rfl⟩,gen _⟩
  | _=>cases D
 | false =>
 have S:∀ t,vX (some c) t vs=(vs.flatMap (aS t bF)).map (·.1):=λt=>by simp only[vX];cases hr:c.res<;>first|rfl|(rw[hr]at D;cases D)
 rw[S]at A ⊢;have A:∀ i∈vs.flatMap (aS st bF),st2.site i.1=st.site i.1:=λi h=>A i.1 (cA.2 ⟨i,h,rfl⟩);rw[z51 D]at M;rw[Nj D]at k;obtain⟨V,U⟩:=EL A;unfold xR;simp only[z51 D,Nj D,U,V,M,and_self,cH];cases z:c.tn with
 | none =>
  rw[z]at k;exact VH z k A hd
 | some t =>
  obtain⟨i,sz,ad⟩:=t;rw[z]at k;obtain⟨j,e1,e2⟩:=VN (d:=d) k A;refine⟨j,e1,?_⟩;have O:Bz (some c) d ((vs.flatMap (aS st bF)).map (·.1))=d::(vs.flatMap (aS st bF)).map (·.1):=by simp only[Bz,z];cases hr:c.res<;>rfl
  rw[O];obtain⟨a1,W,X,a4,a5,a6⟩:=e2;refine⟨λs hs=>?_,λs hs=>W s (λh=>hs (cI.2 (.inr h))),λs hs=>X s (λh=>hs (cI.2 (.inr h))),a4,a5,λs hs=>hs⟩;by_cases J:s∈(vs.flatMap (aS st bF)).map (·.1)
  .exact a1 s J
  .obtain rfl|hs:=cI.1 hs
   .rw[W s J,X s J,hd]
   .exact absurd hs J
theorem LW{I:c7}(b:bY orc st d I=some (v,st'))(hs:∀ x∈I.bZ,st2.ev x=st.ev x)(r:∀ s∈ek orc st d I,st2.site s=st.site s) :
  ∃ M,bY orc st2 d I=some (v,M)/\pJ st st' st2 M (ek orc st d I) (gV orc st d I):=by
 cases I with
 | mv x =>
  obtain⟨rfl,rfl⟩:=b;exact⟨st2,by simp only[bY,hs x (by simp[c7.bZ])],iR⟩
 | pick c x y =>
  simp only[bY]at b ⊢;rw[hs c (by simp[c7.bZ]),hs x (by simp[c7.bZ]),hs y (by simp[c7.bZ])];split at b<;>first|(cases b;done)|(simp only[cD,c5]at b;obtain⟨rfl,rfl⟩:=b;exact⟨st2,by simp only[*],iR⟩)
 | alloc F z =>
  have D:st2.site d=st.site d:=r d (by simp[ek]);simp only[bY]at b ⊢;split at b
  .rename_i J;cases b;rw[D,aX J];exact⟨_,rfl,C0 D (by simp[ek])⟩
  .cases b
 | box F x =>
  have D:st2.site d=st.site d:=r d (by simp[ek]);simp only[bY]at b ⊢;rw[hs x (by simp[c7.bZ])];split at b
  .rename_i J;cases b;rw[D,aX J];exact⟨_,rfl,C0 D (by simp[ek])⟩
  .cases b
 | build z Y =>
  have E:Y.map (λ(o,s,x)=>(o,s,st2.ev x))=Y.map (λ(o,s,x)=>(o,s,st.ev x)):=uK λq H=>by obtain⟨o,s,x⟩:=q;simp only[hs x (cA.2 ⟨(o,s,x),H,rfl⟩)]
  simp only[bY]at b ⊢;rw[E];split at b<;>first|(cases b;done)|(simp only[cD,c5]at b;obtain⟨rfl,rfl⟩:=b;exact⟨st2,by simp only[*],iR⟩)
 | b4 F z n Y =>
  have D:st2.site d=st.site d:=r d (by simp[ek]);have E:Y.map (λ(i,x)=>(i,(st2.ev x).ey))=Y.map (λ(i,x)=>(i,(st.ev x).ey)):=uK λq H=>by obtain⟨i,x⟩:=q;simp only[hs x (cA.2 ⟨(i,x),H,rfl⟩)]
  simp only[bY]at b ⊢;rw[E,D];split at b
  .rename_i J;split at b
   .rename_i es af;cases b;exact⟨_,by rw[aX J,af],C0 D (by simp[ek])⟩
   .cases b
  .cases b
 | load F ag x =>
  have C:=hs x (by simp[c7.bZ]);simp only[ek]at r ⊢;simp only[bY,gV]at b ⊢;rw[C];split at b
  .rename_i s g V B j;rw[j]at r;rw[fB (g:=g) (r s (by simp[jC]))]
   (repeat' split at b)<;>first|(cases b;done)|(simp only[cD,c5]at b;obtain⟨rfl,rfl⟩:=b;exact⟨st2,by simp only[*,cH,fQ,and_self],iR⟩)
  ·(repeat' split at b)<;>first|(cases b;done)|(simp only[cD,c5]at b;obtain⟨rfl,rfl⟩:=b;exact⟨st2,by simp only[*,cH,fQ,and_self],iR⟩)
  .cases b
 | store F p x =>
  have E:=hs p (by simp[c7.bZ]);have C:=hs x (by simp[c7.bZ]);simp only[ek]at r ⊢;simp only[bY,gV]at b ⊢;rw[C,E];split at b
  .rename_i s g V B j;rw[j]at r;have u:=r s (by simp[jC]);rw[j];rw[fB (g:=g) u];have L:∀ o,pJ st (st.setObj s g o) st2 (st2.setObj s g o) (jC (.ptr s g V B)) (jC (.ptr s g V B)):=by
    intro o;refine⟨λt A=>?_,λt A=>?_,λt A=>?_,rfl,rfl,λ_ h=>h⟩
    .simp[jC]at A;subst A;rw[uI,uI,u]
    .simp[jC]at A;rw[uI,bD A]
    .simp[jC]at A;rw[uI,bD A]
   split at b
   .rename_i o ho;split at b
    .rename_i e aq;split at b
     .rename_i W;split at b
      .rename_i h2;simp only[cD,c5]at b;obtain⟨rfl,rfl⟩:=b;exact⟨_,by simp only[aX W,aX h2],L _⟩
      .rename_i h2;split at b
       .rename_i e' ap;simp only[cD,c5]at b;obtain⟨rfl,rfl⟩:=b;exact⟨_,by simp only[aX W,bD h2],L _⟩
       .cases b
     .cases b
    .cases b
   .cases b
  .cases b
 | bV x =>
  have C:=hs x (by simp[c7.bZ]);simp only[ek]at r ⊢;simp only[bY,gV]at b ⊢;rw[C];split at b
  .rename_i s g V B j;rw[j]at r;rw[fB (g:=g) (r s (by simp[jC]))]
   (repeat' split at b)<;>first|(cases b;done)|(simp only[cD,c5]at b;obtain⟨rfl,rfl⟩:=b;exact⟨st2,by simp only[*],iR⟩)
  all_goals first|(cases b;done)|(simp only[cD,c5]at b;obtain⟨rfl,rfl⟩:=b;exact⟨st2,by simp only[*],iR⟩)
 | dI I x y =>
  simp only[bY]at b ⊢;rw[hs x (by simp[c7.bZ]),hs y (by simp[c7.bZ])];split at b<;>first|(cases b;done)|(simp only[cD,c5]at b;obtain⟨rfl,rfl⟩:=b;exact⟨st2,by simp only[*],iR⟩)
 | gJ I x y =>
  simp only[bY]at b ⊢;rw[hs x (by simp[c7.bZ]),hs y (by simp[c7.bZ])];split at b<;>first|(cases b;done)|(simp only[cD,c5]at b;obtain⟨rfl,rfl⟩:=b;exact⟨st2,by simp only[*],iR⟩)
 | j' ks I x y =>
  simp only[bY]at b ⊢;rw[hs x (by simp[c7.bZ]),hs y (by simp[c7.bZ])];split at b<;>first|(cases b;done)|(simp only[cD,c5]at b;obtain⟨rfl,rfl⟩:=b;exact⟨st2,by simp only[*],iR⟩)
 | not x =>
  simp only[bY]at b ⊢;rw[hs x (by simp[c7.bZ])];split at b<;>first|(cases b;done)|(simp only[cD,c5]at b;obtain⟨rfl,rfl⟩:=b;exact⟨st2,by simp only[*],iR⟩)
 | neg x =>
  simp only[bY]at b ⊢;rw[hs x (by simp[c7.bZ])];split at b<;>first|(cases b;done)|(simp only[cD,c5]at b;obtain⟨rfl,rfl⟩:=b;exact⟨st2,by simp only[*],iR⟩)
 | tA x =>
  simp only[bY]at b ⊢;rw[hs x (by simp[c7.bZ])]
  (repeat' split at b)<;>first|(cases b;done)|(simp only[cD,c5]at b;obtain⟨rfl,rfl⟩:=b;exact⟨st2,by simp only[*],iR⟩)
 | conv k x =>
  simp only[bY]at b ⊢;rw[hs x (by simp[c7.bZ])];split at b<;>first|(cases b;done)|(simp only[cD,c5]at b;obtain⟨rfl,rfl⟩:=b;exact⟨st2,by simp only[*],iR⟩)
 | gT f G =>
  have E:G.map st2.ev=G.map st.ev:=uK λq H=>hs q H;simp only[bY]at b ⊢;rw[E];split at b<;>first|(cases b;done)|(simp only[cD,c5]at b;obtain⟨rfl,rfl⟩:=b;exact⟨st2,by simp only[*,cH],iR⟩)
 | cM F z l c =>
  have D:st2.site d=st.site d:=r d (by simp[ek]);simp only[bY]at b ⊢;rw[hs l (by simp[c7.bZ]),hs c (by simp[c7.bZ]),D];split at b
  .rename_i n m hn hm;split at b
   .rename_i J;cases b;exact⟨_,by simp only[aX J],C0 D (by simp[ek])⟩
   .cases b
  .cases b
 | slice F x lo hi =>
  have C:=hs x (by simp[c7.bZ]);have ao:∀ n,sP st2 lo n=sP st lo n:=by
   intro n;cases lo with
   | none=>rfl
   | some l=>simp only[sP];rw[hs l (by simp[c7.bZ,iJ])]
  have S:∀ n,sP st2 hi n=sP st hi n:=by
   intro n;cases hi with
   | none=>rfl
   | some l=>simp only[sP];rw[hs l (by simp[c7.bZ,iJ])]
  simp only[ek]at r ⊢;simp only[bY,gV]at b ⊢;rw[C,ao];split at b
  .simp only[S]
   (repeat' split at b)<;>first|(cases b;done)|(simp only[cD,c5]at b;obtain⟨rfl,rfl⟩:=b;exact⟨st2,by simp only[*,cH,and_self],iR⟩)
  .rename_i l s g B len hl j;rw[j]at r;simp only[S];rw[fB (g:=g) (r s (by simp[jC]))]
   (repeat' split at b)<;>first|(cases b;done)|(simp only[cD,c5]at b;obtain⟨rfl,rfl⟩:=b;exact⟨st2,by simp only[*,cH,and_self],iR⟩)
  .simp only[S]
   (repeat' split at b)<;>first|(cases b;done)|(simp only[cD,c5]at b;obtain⟨rfl,rfl⟩:=b;exact⟨st2,by simp only[*,cH,and_self],iR⟩)
  .cases b
 | iP B x =>
  have C:=hs x (by simp[c7.bZ]);simp only[ek]at r ⊢;simp only[bY,gV]at b ⊢;rw[C];split at b
  .rename_i s g V B j;rw[j]at r;rw[fB (g:=g) (r s (by simp[jC]))]
   (repeat' split at b)<;>first|(cases b;done)|(simp only[cD,c5]at b;obtain⟨rfl,rfl⟩:=b;exact⟨st2,by simp only[*],iR⟩)
  all_goals first|(cases b;done)|(simp only[cD,c5]at b;obtain⟨rfl,rfl⟩:=b;exact⟨st2,by simp only[*],iR⟩)
 | field B F ag x =>
  simp only[bY]at b ⊢;rw[hs x (by simp[c7.bZ])]
  (repeat' split at b)<;>first|(cases b;done)|(simp only[cD,c5]at b;obtain⟨rfl,rfl⟩:=b;exact⟨st2,by simp only[*],iR⟩)
 | cG F x i =>
  have C:=hs x (by simp[c7.bZ]);simp only[ek]at r ⊢;simp only[bY,gV]at b ⊢;rw[C,hs i (by simp[c7.bZ])];split at b
  ·(repeat' split at b)<;>first|(cases b;done)|(simp only[cD,c5]at b;obtain⟨rfl,rfl⟩:=b;exact⟨st2,by simp only[*,cH,and_self],iR⟩)
  .rename_i m s g B len hm j;rw[j]at r;rw[fB (g:=g) (r s (by simp[jC]))]
   (repeat' split at b)<;>first|(cases b;done)|(simp only[cD,c5]at b;obtain⟨rfl,rfl⟩:=b;exact⟨st2,by simp only[*,cH,and_self],iR⟩)
  .cases b
 | cB m F x i =>
  have C:=hs x (by simp[c7.bZ]);simp only[ek]at r ⊢;simp only[bY,gV]at b ⊢;rw[C,hs i (by simp[c7.bZ])];split at b
  .rename_i n s g V o hm j;rw[j]at r;rw[fB (g:=g) (r s (by simp[jC]))]
   (repeat' split at b)<;>first|(cases b;done)|(simp only[cD,c5]at b;obtain⟨rfl,rfl⟩:=b;exact⟨st2,by simp only[*,cH],iR⟩)
  ·(repeat' split at b)<;>first|(cases b;done)|(simp only[cD,c5]at b;obtain⟨rfl,rfl⟩:=b;exact⟨st2,by simp only[*,cH],iR⟩)
  .cases b
 | idx m F ag x i =>
  simp only[bY]at b ⊢;rw[hs x (by simp[c7.bZ]),hs i (by simp[c7.bZ])]
  (repeat' split at b)<;>first|(cases b;done)|(simp only[cD,c5]at b;obtain⟨rfl,rfl⟩:=b;exact⟨st2,by simp only[*,cH],iR⟩)
 | extract x i =>
  simp only[bY]at b ⊢;rw[hs x (by simp[c7.bZ])]
  (repeat' split at b)<;>first|(cases b;done)|(simp only[cD,c5]at b;obtain⟨rfl,rfl⟩:=b;exact⟨st2,by simp only[*],iR⟩)
 | len x =>
  simp only[bY]at b ⊢;rw[hs x (by simp[c7.bZ])];split at b<;>first|(cases b;done)|(simp only[cD,c5]at b;obtain⟨rfl,rfl⟩:=b;exact⟨st2,by simp only[*],iR⟩)
 | append F x y =>
  have C:=hs x (by simp[c7.bZ]);have hy:=hs y (by simp[c7.bZ]);have D:st2.site d=st.site d:=r d (by simp[ek]);have ad:st2.elems (st.ev y)=st.elems (st.ev y):=by
   unfold St.elems;split
   .rfl
   .rfl
   .rfl
   .rfl
   .rename_i s g B len j;rw[fB (g:=g) (r s (by simp[ek,j,jC]))]
   .rfl
  simp only[bY]at b ⊢;simp only[ek,gV]at r ⊢;rw[C,hy,ad];split at b
  .rename_i O au;split at b
   .rename_i X;split at b
    .rename_i j;split at b
     .rename_i R;cases b;exact⟨st2.alloc d ⟨F,O.map AV.ey⟩,by simp only[aX X,aX R,D],by rw[j];exact C0 D (by simp)⟩
     .cases b
    .rename_i s g B len j;have u:=r s (by simp[j,jC]);split at b
     .rename_i o ho;split at b
      .rename_i R;cases b;have U:(aI st2 [(s,g)]).site d=(aI st [(s,g)]).site d:=C5 _ D;have al:(aI st2 [(s,g)]).site s=(aI st [(s,g)]).site s:=C5 _ u;refine⟨(aI st2 [(s,g)]).alloc d ⟨F,o.es++O.map AV.ey⟩,by simp only[aX X,fB (g:=g) u,ho,aX R,U],λt A=>?_,λt A=>?_,λt A=>?_,rfl,rfl,λt A=>?_⟩
       .simp only[j,jC,cI,List.mem_nil_iff,or_false]at A;obtain rfl|rfl:=A
        .exact Gu U (.inl rfl)
        .exact Gu U (.inr al)
       .simp only[j,jC,List.mem_cons,List.mem_nil_iff,or_false,not_or]at A;rw[vG,if_neg A.1];exact C6 _ (by simpa using A.2)
       .simp only[j,jC,List.mem_cons,List.mem_nil_iff,or_false,not_or]at A;rw[vG,if_neg A.1];exact C6 _ (by simpa using A.2)
       .simp only[cI,dN]at A ⊢;obtain h|h:=A
        .exact .inl h
        .exact .inr (.inl h)
      .cases b
     .cases b
    .cases b
   .cases b
  .cases b
 | min O =>
  have E:O.map st2.ev=O.map st.ev:=uK λq H=>hs q H;simp only[bY]at b ⊢;rw[E];split at b<;>first|(cases b;done)|(simp only[cD,c5]at b;obtain⟨rfl,rfl⟩:=b;exact⟨st2,by simp only[*],iR⟩)
 | max O =>
  have E:O.map st2.ev=O.map st.ev:=uK λq H=>hs q H;simp only[bY]at b ⊢;rw[E];split at b<;>first|(cases b;done)|(simp only[cD,c5]at b;obtain⟨rfl,rfl⟩:=b;exact⟨st2,by simp only[*],iR⟩)
 | call f args =>
  have E:args.map st2.ev=args.map st.ev:=uK λq H=>hs q H;simp only[bY,ek,gV,xQ]at b r ⊢;rw[E];exact M1 b (λs hs=>r s (cI.2 (.inr hs))) (r d (by simp))
 | iv f args =>
  have hf:=hs f (by simp[c7.bZ]);have E:args.map st2.ev=args.map st.ev:=uK λq H=>hs q (by simp[c7.bZ,H]);simp only[bY,ek,gV,xQ]at b r ⊢;rw[E,hf];split at b
  .rename_i g G j;simp only[j]at r ⊢;exact M1 b (λs hs=>r s (cI.2 (.inr hs))) (r d (by simp))
  .rename_i g G j;simp only[j]at r ⊢;exact M1 b (λs hs=>r s (cI.2 (.inr hs))) (r d (by simp))
  .cases b
 | ic neg x =>
  have C:=hs x (by simp[c7.bZ]);simp only[ek]at r ⊢;simp only[bY,gV]at b ⊢;rw[C];split at b
  case h_5 =>
   rename_i s g B len j;rw[j]at r;rw[fB (g:=g) (r s (by simp[jC]))]
   (repeat' split at b)<;>first|(cases b;done)|(simp only[cD,c5]at b;obtain⟨rfl,rfl⟩:=b;exact⟨st2,by simp only[*,cH],iR⟩)
  all_goals first|(cases b;done)|(simp only[cD,c5]at b;obtain⟨rfl,rfl⟩:=b;exact⟨st2,by simp only[*],iR⟩)
 | cap x =>
  simp only[bY]at b ⊢;rw[hs x (by simp[c7.bZ])];split at b<;>first|(cases b;done)|(simp only[cD,c5]at b;obtain⟨rfl,rfl⟩:=b;exact⟨st2,by simp only[*],iR⟩)
 | clear F zero x =>
  have C:=hs x (by simp[c7.bZ]);simp only[ek]at r ⊢;simp only[bY,gV]at b ⊢;rw[C];split at b
  .rename_i j;simp only[cD,c5]at b;obtain⟨rfl,rfl⟩:=b;exact⟨st2,rfl,by rw[j];exact iR⟩
  .rename_i s g B len j;rw[j]at r;have u:=r s (by simp[jC]);rw[j];rw[fB (g:=g) u];split at b
   .rename_i o ho;split at b
    .rename_i W;simp only[cD,c5]at b;obtain⟨rfl,rfl⟩:=b;refine⟨st2.setObj s g ⟨o.sz,o.es.take B++List.replicate len zero.ey++o.es.drop (B+len)⟩,by simp only[aX W],λt A=>?_,λt A=>?_,λt A=>?_,rfl,rfl,λ_ h=>h⟩
     .simp[jC]at A;subst A;rw[uI,uI,u]
     .simp[jC]at A;rw[uI,bD A]
     .simp[jC]at A;rw[uI,bD A]
    .cases b
   .cases b
  .cases b
 | fE F z a x =>
  have D:st2.site d=st.site d:=r d (by simp[ek]);simp only[bY]at b ⊢;rw[hs a (by simp[c7.bZ]),hs x (by simp[c7.bZ]),D];split at b
  .rename_i n W h2;split at b
   .rename_i J;cases b;exact⟨_,by simp only[aX J],C0 D (by simp[ek])⟩
   .cases b
  .cases b
 | qK x i =>
  simp only[bY]at b ⊢;rw[hs x (by simp[c7.bZ]),hs i (by simp[c7.bZ])]
  (repeat' split at b)<;>first|(cases b;done)|(simp only[cD,c5]at b;obtain⟨rfl,rfl⟩:=b;exact⟨st2,by simp only[*],iR⟩)
 | mr qs z x k =>
  simp only[bY]at b ⊢;rw[hs x (by simp[c7.bZ]),hs k (by simp[c7.bZ])]
  (repeat' split at b)<;>first|(cases b;done)|(simp only[cD,c5]at b;obtain⟨rfl,rfl⟩:=b;exact⟨st2,by simp only[*,cH,and_self],iR⟩)
 | jY qs z x k =>
  simp only[bY]at b ⊢;rw[hs x (by simp[c7.bZ]),hs k (by simp[c7.bZ])]
  (repeat' split at b)<;>first|(cases b;done)|(simp only[cD,c5]at b;obtain⟨rfl,rfl⟩:=b;exact⟨st2,by simp only[*,cH,and_self],iR⟩)
 | raw I=>simp only[bY]at b;cases b
 | bad=>simp only[bY]at b;cases b
end
noncomputable def tM(orc:Option bJ)(st:St)(i:Ins):Option St :=
 match bY orc st (i.dst.getD 0) i.op with
 | some (v,s)=>some (s.put i.dst v)
 | none=>none
noncomputable def exec(orc:Option bJ)(st:St)(i:Ins):Option St :=
 match i.guard with
 | none=>tM orc st i
 | some (t,b)=>match st.get t with
  | .p (.bool c)=>if c=b then tM orc st i else some (st.put i.dst .skip)
  | .skip=>some (st.put i.dst .skip)
  | _=>none
def runs(st:St)(i:Ins):Bool :=
 match i.guard with
 | none=>true
 | some (t,b)=>match st.get t with
  | .p (.bool c)=>c == b
  | _=>false
structure FP where
 ds:List Nat
 rs:List Nat
 rt:List Nat
 wt:List Nat
def fp(orc:Option bJ)(st:St)(i:Ins):FP :=
 {ds:=i.dst.toList,rs:=(i.guard.map (·.1)).toList++i.op.bZ.flatMap bP.aY,
  rt:=if runs st i then ek orc st (i.dst.getD 0) i.op else[],wt:=if runs st i then gV orc st (i.dst.getD 0) i.op else[] }
structure FP.Sub (f g:FP):Prop where
 ds:∀ t∈f.ds,t∈g.ds
 rs:∀ t∈f.rs,t∈g.rs
 rt:∀ t∈f.rt,t∈g.rt
 wt:∀ t∈f.wt,t∈g.wt
def FP.Sub.refl(f:FP):FP.Sub f f:=⟨λ_ h=>h,λ_ h=>h,λ_ h=>h,λ_ h=>h⟩
def uX(a b:List Nat):Bool:=a.all λx=>!b.contains x
def yb(f g:FP):Bool:=uX f.ds g.rs&&uX f.ds g.ds&&uX g.ds f.rs&&uX f.wt g.rt&&uX g.wt f.rt
structure iw (s t:St):Prop where
 get:∀ n,t.get n=s.get n
 site:∀ n,t.site n=s.site n
section
variable {orc:Option bJ} {st st' st2:St} {d:Nat} {v:AV}
def iw.refl(s:St):iw s s:=⟨λ_=>rfl,λ_=>rfl⟩
def iw.symm{s t:St}(h:iw s t):iw t s:=⟨λn=>(h.get n).symm,λn=>(h.site n).symm⟩
def iw.trans{s t u:St}(h:iw s t)(k:iw t u):iw s u:=⟨λn=>(k.get n).trans (h.get n),λn=>(k.site n).trans (h.site n)⟩
theorem xM(st:St)(d:Option Nat)(v:AV)(t:Nat):(st.put d v).get t=if d=some t then v else st.get t:=by
 cases d with
 | none=>simp[St.put]
 | some d =>
  simp[St.put,St.get,look]
def pT(st:St)(d:Option Nat)(v:AV)(s:Nat):(st.put d v).site s=st.site s:=by cases d<;>rfl
def AB{s t:St}(h:s.sl=t.sl)(n:Nat):s.get n=t.get n:=by simp[St.get,h]
theorem Vk{b:c7}(hs:∀ x∈b.bZ,st2.ev x=st.ev x)(h:∀ s∈vX orc st (xQ st b),st2.site s=st.site s):vX orc st2 (xQ st2 b)=vX orc st (xQ st b):=by
 have m:xQ st2 b=xQ st b:=by
  cases b<;>simp only[xQ]
  case call f args=>exact uK λq k=>hs q k
  case iv f args =>
   have p:args.map st2.ev=args.map st.ev:=uK λq k=>hs q (by simp[c7.bZ,k]);rw[p,hs f (by simp[c7.bZ])]
 rw[m];generalize xQ st b=l at h;unfold vX at h ⊢;cases orc with
 | none=>rw[(EL (st2:=st2) (n:=bF) (vs:=l) λi j=>h i.1 (cA.2 ⟨i,j,rfl⟩)).1]
 | some c =>
  simp only at h ⊢;cases o:c.res<;>rw[o]at h<;>simp only at h ⊢ <;> first|rfl|rw[(EL (st2:=st2) (n:=bF) (vs:=l) λi j=>h i.1 (cA.2 ⟨i,j,rfl⟩)).1]
def Qt{b:c7}(hs:∀ x∈b.bZ,st2.ev x=st.ev x)(f:∀ s∈ek orc st d b,st2.site s=st.site s):ek orc st2 d b=ek orc st d b/\gV orc st2 d b=gV orc st d b:=by
 cases b<;>simp only[ek,gV]at f ⊢ <;> first
  | exact⟨trivial,trivial⟩
  | (rename_i x;rw[hs x (by simp[c7.bZ])];first|exact⟨rfl,rfl⟩|exact⟨rfl,trivial⟩|exact⟨trivial,trivial⟩)
  | (rename_i x y;rw[hs x (by simp[c7.bZ]),hs y (by simp[c7.bZ])];first|exact⟨rfl,rfl⟩|exact⟨rfl,trivial⟩|exact⟨trivial,trivial⟩)
  | (rename_i x y z;rw[hs y (by simp[c7.bZ])];first|exact⟨rfl,rfl⟩|exact⟨rfl,trivial⟩|exact⟨trivial,trivial⟩)
  | (rename_i x y z t;rw[hs y (by simp[c7.bZ])];first|exact⟨rfl,rfl⟩|exact⟨rfl,trivial⟩|exact⟨trivial,trivial⟩)
  | (rw[Vk hs (λs h=>f s (cI.2 (.inr h)))];exact⟨rfl,rfl⟩)
theorem IW{i:Ins}(o:exec orc st i=some st')(hs:∀ t∈(fp orc st i).rs,st2.get t=st.get t)(G:∀ s∈(fp orc st i).rt,st2.site s=st.site s) :
  ∃ f,exec orc st2 i=some f/\fp orc st2 i=fp orc st i/\(∀ t∈(fp orc st i).ds,f.get t=st'.get t)/\(∀ t,t∉(fp orc st i).ds->f.get t=st2.get t/\st'.get t=st.get t) /\
   (∀ s∈(fp orc st i).wt,f.site s=st'.site s)/\(∀ s,s∉(fp orc st i).wt->f.site s=st2.site s/\st'.site s=st.site s)/\(∀ s∈(fp orc st i).wt,s∈(fp orc st i).rt):=by
 have r:∀ x∈i.op.bZ,st2.ev x=st.ev x:=by
  intro x Y;cases x with
  | c v=>rfl
  | t n=>exact hs n (by simp only[fp,dN];exact .inr (kC.2 ⟨.t n,Y,by simp[bP.aY]⟩))
 have X:∀ t b,i.guard=some (t,b)->st2.get t=st.get t:=λt b h=>hs t (by simp[fp,h]);have B:runs st2 i=runs st i:=by
  unfold runs
  grind
 have p:fp orc st2 i=fp orc st i:=by
  unfold fp at G ⊢;rw[B];cases j:runs st i with
  | false=>rfl
  | true =>
   simp only[j,cH]at G ⊢;obtain⟨C,D⟩:=Qt (orc:=orc) (d:=i.dst.getD 0) r G
   grind
 have u:∀ {s1 m s E:St} {v:AV} {R W:List Nat},pJ s1 s m E R W->(∀ t∈i.dst.toList,(E.put i.dst v).get t=(s.put i.dst v).get t)/\(∀ t,t∉i.dst.toList->(E.put i.dst v).get t=m.get t/\(s.put i.dst v).get t=s1.get t) /\
   (∀ t∈W,(E.put i.dst v).site t=(s.put i.dst v).site t)/\(∀ t,t∉W->(E.put i.dst v).site t=m.site t/\(s.put i.dst v).site t=s1.site t)/\(∀ t∈W,t∈R):=by
  intro s1 m s E v R W h;obtain⟨L,M,O,S,U,V⟩:=h;refine⟨λt l=>?_,λt l=>?_,λt l=>?_,λt l=>?_,V⟩
  .rw[xM,xM];cases J:i.dst with
   | none=>simp[J]at l
   | some d=>simp[J]at l;subst l;simp
  .rw[xM,xM];have:i.dst≠some t:=by intro h;simp[h]at l
   rw[bD this,bD this];exact⟨AB S t,AB U t⟩
  .rw[pT,pT];exact L t l
  .rw[pT,pT];exact⟨M t l,O t l⟩
 have z:runs st i=true->tM orc st i=some st'->∃ f,tM orc st2 i=some f/\(∀ t∈(fp orc st i).ds,f.get t=st'.get t)/\(∀ t,t∉(fp orc st i).ds->f.get t=st2.get t/\st'.get t=st.get t) /\
   (∀ s∈(fp orc st i).wt,f.site s=st'.site s)/\(∀ s,s∉(fp orc st i).wt->f.site s=st2.site s/\st'.site s=st.site s)/\(∀ s∈(fp orc st i).wt,s∈(fp orc st i).rt):=by
  intro j h;unfold tM at h ⊢;split at h
  .rename_i v s H;cases h;have I:∀ s∈ek orc st (i.dst.getD 0) i.op,st2.site s=st.site s:=λs hs=>G s (by simp[fp,j,hs]);obtain⟨m,C,D⟩:=LW H r I;refine⟨m.put i.dst v,by rw[C],?_⟩;simp only[fp,j,cH];exact u D
  .cases h
 have A:runs st i=false->st'=st.put i.dst .skip->(∀ t∈(fp orc st i).ds,(st2.put i.dst .skip).get t=st'.get t)/\(∀ t,t∉(fp orc st i).ds->(st2.put i.dst .skip).get t=st2.get t/\st'.get t=st.get t) /\
   (∀ s∈(fp orc st i).wt,(st2.put i.dst .skip).site s=st'.site s)/\(∀ s,s∉(fp orc st i).wt->(st2.put i.dst .skip).site s=st2.site s/\st'.site s=st.site s)/\(∀ s∈(fp orc st i).wt,s∈(fp orc st i).rt):=by
  intro j h;subst h;simp only[fp,j,fQ,gP];exact u (iR (R:=[]))
 unfold exec at o ⊢;split at o
 .rename_i h;obtain⟨m,C,D⟩:=z (by simp[runs,h]) o;exact⟨m,C,p,D⟩
 .rename_i t b h;simp only[X t b h];split at o
  .rename_i c F;split at o
   .rename_i k;obtain⟨m,C,D⟩:=z (by simp[runs,h,F,k]) o;exact⟨m,by rw[aX k];exact C,p,D⟩
   .rename_i k;cases o;exact⟨_,by rw[bD k],p,A (by simp[runs,h,F,k]) rfl⟩
  .rename_i F;cases o;exact⟨_,rfl,p,A (by simp[runs,h,F]) rfl⟩
  .cases o
def TF{i:Ins}(n:exec orc st i=some st')(h:iw st st2):∃ b,exec orc st2 i=some b/\fp orc st2 i=fp orc st i/\iw st' b:=by
 obtain⟨o,l,m,p,j,r,k,_⟩:=IW n (λt _=>h.get t) (λs _=>h.site s);refine⟨o,l,m,λt=>?_,λs=>?_⟩
 .by_cases f:t∈(fp orc st i).ds
  .grind
  .rw[(j t f).1,(j t f).2];exact h.get t
 .by_cases f:s∈(fp orc st i).wt
  .grind
  .rw[(k s f).1,(k s f).2];exact h.site s
abbrev Item:=(Option bJ × Ins) × FP
inductive fX:List Item->St->St->Prop
 | nil (st:St):fX [] st st
 | cons (x:Item) (xs:List Item) (st s1 st':St):exec x.1.1 st x.1.2=some s1->(fp x.1.1 st x.1.2).Sub x.2->fX xs s1 st'->fX (x::xs) st st'
theorem fX.eqv:∀ {xs:List Item} {st st' st2:St},fX xs st st'->iw st st2->∃ b,fX xs st2 b/\iw st' b
 | _,_,_,st2,.nil st,h=>⟨st2,.nil st2,h⟩
 | _,_,_,st2,.cons x xs st s1 st' m n h3,h=>by obtain⟨o,f,i,j⟩:=TF m h;obtain⟨b,k,l⟩:=fX.eqv h3 j;exact⟨b,.cons x xs st2 o b f (i ▸ n) k,l⟩
def Em{a b:List Nat}(h:uX a b=true){x:Nat}(f:x∈a):x∉b:=by
 have:=k8.1 h x f
 grind
theorem fX.swap{x y:Item}{xs:List Item}{st st':St}(h:fX (x::y::xs) st st')(hi:yb x.2 y.2=true):∃ b,fX (y::x::xs) st b/\iw st' b:=by
 cases h with
 | cons _ _ _ s1 _ o i h3 =>
  cases h3 with
  | cons _ _ _ R _ M k O =>
   simp only[yb,jO]at hi;obtain⟨⟨⟨⟨i1,J⟩,L⟩,p⟩,i5⟩:=hi;have j:=IW (st2:=st) o (λ_ _=>rfl) (λ_ _=>rfl);obtain⟨_,_,_,_,S,_,U,xw⟩:=j
   obtain⟨n,a1,u,V,z,W,A,B⟩:=IW (st2:=st) M
    (λt m=>((S t (λf=>Em i1 (i.ds _ f) (k.rs _ m))).2).symm)
    (λs hs=>((U s (λf=>Em p (i.wt _ f) (k.rt _ hs))).2).symm)
   obtain⟨r,C,D,E,X,F,Y,_⟩:=IW (st2:=n) o
    (λt m=>(z t (λf=>Em L (k.ds _ f) (i.rs _ m))).1)
    (λs hs=>(A s (λf=>Em i5 (k.wt _ f) (i.rt _ hs))).1)
   have l:iw R r:=by
    refine⟨λt=>?_,λs=>?_⟩
    .by_cases j:t∈(fp x.1.1 st x.1.2).ds
     .rw[E t j];have I:t∉(fp y.1.1 s1 y.1.2).ds:=λf=>Em J (i.ds _ j) (k.ds _ f)
      grind
     .grind
    .by_cases j:s∈(fp x.1.1 st x.1.2).wt
     .rw[F s j];have I:s∉(fp y.1.1 s1 y.1.2).wt:=λf=>Em p (i.wt _ j) (k.rt _ (B s f))
      grind
     .grind
   obtain⟨b,G,H⟩:=fX.eqv O l;exact⟨b,.cons y _ st n b a1 (u ▸ k) (.cons x _ n r b C (D ▸ i) G),H⟩
theorem fX.front{x:Item}{xs:List Item}:∀ {f:List Item} {st st':St},fX (f++x::xs) st st'->(∀ y∈f,yb y.2 x.2=true)->∃ b,fX (x::(f++xs)) st b/\iw st' b
 | [],st,st',h,_=>⟨st',h,iw.refl st'⟩
 | y::f,st,st',h,hi=>by
  cases h with
  | cons _ _ _ s1 _ n o h3 =>
   obtain⟨s',j,k⟩:=fX.front h3 (λz hz=>hi z (by simp[hz]));obtain⟨i,l,m⟩:=fX.swap (.cons y _ st s1 s' n o j) (hi y (by simp));exact⟨i,l,k.trans m⟩
end
section
variable {P:Program} {K:Ctx} {Z Z':Cz} {st st' st2:St} {w w':World} {a:Act} {orc:Option bJ} {d:Nat} {v:AV}
def sC{s t:St}(h:∀ i,t.site i=s.site i)(Z:Cz):cP Z s Z t :=
 ⟨λ_ _ h=>h,λi=>by rw[h];exact dE _,λi g _ b=>by rw[fB (h i)];exact b,λi g o f=>.inr ⟨o,by rw[fB (h i)];exact f,rfl,rfl,rfl,rfl⟩⟩
def bG.hJ(h:bG K Z st w)(e:∀ i,st2.site i=st.site i):bG K Z st2 w:=by
 have k:∀ s g,st2.obj s g=st.obj s g:=λs g=>fB (e s);refine⟨λs g o f=>?_,λs g s' g' o o' b f j=>?_,h.mem,λs g o b f=>?_,λs g o b f=>?_,h.m0,h.eM,h.keep⟩
 .rw[k]at f;obtain⟨l,m,h3,n,p⟩:=h.bT s g o f;refine⟨l,m,h3,n,λb r=>?_⟩;obtain⟨cur,T,vals,t,u,z⟩:=p b r;exact⟨cur,T,vals,t,aG.mono (sC e Z) u,z⟩
 .rw[k]at f j;exact h.inj s g s' g' o o' b f j
 .rw[k]at f;exact h.sep s g o b f
 .rw[k]at f;exact h.own s g o b f
def aN.eqv(h:aN K Z st w a)(e:iw st st2):aN K Z st2 w a :=
 ⟨λt=>by rw[e.get];exact aQ.mono (sC e.site Z) (h.aY t),h.defers,h.size,h.heap.hJ e.site⟩
def bC:Nat:=999998
def fU:Nat:=900000
structure cY (Z:Cz) (st:St) (Z':Cz) (st':St):Prop where
 len:∀ s,fU<=s->s<999999->(st.site s).length<=(st'.site s).length
 dead:∀ s g,fU<=s->s<999999->g<(st.site s).length->st.obj s g=none->st'.obj s g=none
 live:∀ s g o,fU<=s->s<999999->st.obj s g=some o->st'.obj s g=none\/∃ o',st'.obj s g=some o'/\o'.sz=o.sz/\o'.es.length=o.es.length/\Z'.B s g=Z.B s g/\Z'.cap s g=Z.cap s g
def cY.dW{Z':Cz}{st':St}(h:cP Z st Z' st'):cY Z st Z' st':=⟨λs _ _=>h.len s,λs g _ _=>h.dead s g,λs g o _ _=>h.live s g o⟩
def cY.refl(Z:Cz)(st:St):cY Z st Z st:=.dW (cP.refl Z st)
theorem cY.trans{j Z2 l:Cz}{s1 p r:St}(h:cY j s1 Z2 p)(k:cY Z2 p l r):cY j s1 l r:=by
 refine⟨λs a b=>dM (h.len s a b) (k.len s a b),λs g a b m hd=>k.dead s g a b (iL m (h.len s a b)) (h.dead s g a b m hd),λs g o a b n=>?_⟩;obtain hd|⟨o',f,t,u,z,A⟩:=h.live s g o a b n
 .exact .inl (k.dead s g a b (iL (nQ n) (h.len s a b)) hd)
 .obtain hd|⟨F,i,B,C,D,E⟩:=k.live s g o' a b f
  .exact .inl hd
  .exact .inr ⟨F,i,B.trans t,C.trans u,D.trans z,E.trans A⟩
def A3(ops:Array Oper):Option (Nat × Bool)->Option (Option (Nat × Bool))
 | none=>some none
 | some (j,b)=>match (ops[j]?).bind (·.dst)with
  | some t=>some (some (t,b))
  | none=>none
def Gy(N:Nat):Option Nat->Bool
 | none=>true
 | some d=>d<N
def xL(P:Program)(N:Nat)(ops:Array Oper)(o:Oper):Option Ins :=
 match oD P o.op,A3 ops o.guard with
 | some i,some g=>if Gy N o.dst=true then some ⟨o.dst,i,g⟩else none
 | _,_=>none
def CO(P:Program)(N:Nat)(ops:Array Oper):List Oper->Option (List Ins)
 | []=>some []
 | o::r=>match xL P N ops o,CO P N ops r with
  | some i,some l=>some (i::l)
  | _,_=>none
def EE{N:Nat}{ops:Array Oper}{o:Oper}{x:Ins}(h:xL P N ops o=some x) :
  oD P o.op=some x.op/\A3 ops o.guard=some x.guard/\x.dst=o.dst/\Gy N o.dst=true:=by
 unfold xL at h;split at h
 .rename_i i g b f;split at h
  .rename_i j;cases h;exact⟨b,f,rfl,j⟩
  .cases h
 .cases h
theorem aN.put{dst:Option Nat}{x:Value}{w2:World}(hs:aN K Z st w a)(j:st'.sl=st.sl)(hz:cP Z st Z' st')(k:bG K Z' st' w2)(l:aQ Z' st' v x)(hd:Gy K.N dst=true)(f:a.defers=[]) :
  aN K Z' (st'.put dst v) w2 (a.put dst x):=by
 have b:∀ {u:AV} {y:Value},aQ Z' st' u y->aQ Z' (st'.put dst v) u y:=λh=>aQ.mono (sC (λi=>pT _ _ _ i) Z') h;refine⟨λt=>?_,?_,?_,k.hJ (λi=>pT _ _ _ i)⟩
 .rw[xM];cases dst with
  | none=>simp only[reduceCtorEq,fQ,Act.put];rw[AB j];exact b (aQ.mono hz (hs.aY t))
  | some d =>
   simp only[Gy,decide_eq_true_eq]at hd;simp only[cD,Act.put];split
   .rename_i h;subst h;have:(a.tmps.setIfInBounds d x).getD d Go.undef=x:=by simp[hs.size,hd]
    rw[this];exact b l
   .rename_i h;have:(a.tmps.setIfInBounds d x).getD t Go.undef=a.tmps.getD t Go.undef:=by simp[Array.getElem?_setIfInBounds_ne h]
    rw[this,AB j];exact b (aQ.mono hz (hs.aY t))
 .cases dst<;>exact f
 .cases dst<;>simp[Act.put,hs.size]
def xH(P:Program)(orc:Option bJ):Prop:=∀ c,orc=some c->c.ok P
theorem ZH{i:c7}(h:bY orc st d i=some (v,st')):st'.sl=st.sl:=by obtain⟨b,j,f⟩:=LW (st2:=st) h (λ_ _=>rfl) (λ_ _=>rfl);exact f.2.2.2.2.1
theorem Pt{o:Oper}{x:Ins}{Q:Exit->Act->World->Prop}{Kt:Act->World->Prop}(z:oD P o.op=some x.op)(A:x.dst=o.dst)(B:Gy K.N o.dst=true)(hs:aN K Z st w a)(k:xH P orc)
  (p:tM orc st x=some st') (m:∀ Z' w' t,aN K Z' st' w' t->cY Z st Z' st'->Kt t w'):o.wp P a w Kt Q:=by
 unfold tM at p;split at p
 .rename_i v s h;cases p;have l:=ZH h;by_cases b:∃ c f,o.op=.call c/\c.callee=.value f
  .obtain⟨c,f,j,r⟩:=b;refine yg6 z j r hs h k (λw' Z' y H I C=>?_);rw[A]at m;exact m _ _ _ (hs.put l C H I B hs.defers) (.dW (C.trans (sC (λi=>pT _ _ _ i) _)))
  .obtain⟨n,y,w',Z',D,E,F,G,u⟩:=ZG z (λc f j r=>b ⟨c,f,j,r⟩) hs h;unfold Oper.wp;rw[D];rw[A]at m;have:=m _ _ _ (hs.put l u F G B hs.defers) (.dW (u.trans (sC (λi=>pT _ _ _ i) _)));obtain rfl|⟨rfl,rfl⟩:=E
   .exact this
   .exact this
 .cases p
theorem HD{ops:Array Oper}{i:Nat}{o:Oper}{x:Ins}{Q:Exit->Act->World->Prop}{Kt:Act->World->Prop}(I:ops[i]?=some o)(H:xL P K.N ops o=some x)(hs:aN K Z st w a)(m:xH P orc)
  (f:exec orc st x=some st') (u:∀ Z' w' D,aN K Z' st' w' D->cY Z st Z' st'->Kt D w'):wpOp P ops Q i Kt a w:=by
 obtain⟨E,l,A,B⟩:=EE H;unfold wpOp;simp only[I];have skip:st'=st.put x.dst .skip->Kt (a.put o.dst Go.undef) w:=by rintro rfl;rw[A]at u;exact u _ _ _ (hs.put rfl (cP.refl Z st) hs.heap .skip B hs.defers) (.dW (sC (λi=>pT _ _ _ i) _))
 unfold exec at f;cases s:o.guard with
 | none =>
  rw[s]at l;simp only[A3,cD]at l;rw[<- l]at f;have r:Region.wanted o (yielded ops a.tmps)=true:=by simp[Region.wanted,s]
  simp only[r,cH];exact .inl (Pt E A B hs m f u)
 | some J =>
  obtain⟨j,b⟩:=J;rw[s]at l;simp only[A3]at l;split at l
  .rename_i t F;simp only[cD]at l;rw[<- l]at f;have k:=hs.aY t;simp only at f;split at f
   .rename_i c n;rw[n]at k;have C:=k.fT;have z:yielded ops a.tmps j=some c:=by
     have:a.tmps[t]?=some (.bool c):=by
      cases h:a.tmps[t]? with
      | none=>simp[h,Go.undef]at C
      | some y=>simp[h]at C;rw[C]
     simp[yielded,F,this]
    split at f
    .rename_i p;have r:Region.wanted o (yielded ops a.tmps)=true:=by simp[Region.wanted,s,z,p]
     simp only[r,cH];exact .inl (Pt E A B hs m f u)
    .rename_i p;have r:Region.wanted o (yielded ops a.tmps)=false:=by simp[Region.wanted,s,z,p]
     simp only[r,gP,fQ];cases f;exact skip rfl
   .rename_i n;rw[n]at k;have G:a.tmps.getD t Go.undef=Go.undef:=by generalize a.tmps.getD t Go.undef=y at k ⊢;cases k;rfl
    have z:yielded ops a.tmps j=none:=by
     simp only[yielded,F,Option.bind_some];cases h:a.tmps[t]? with
     | none=>rfl
     | some y=>simp[h]at G;rw[G];rfl
    have r:Region.wanted o (yielded ops a.tmps)=false:=by simp[Region.wanted,s,z]
    simp only[r,gP,fQ];cases f;exact skip rfl
   .cases f
  .cases l
end
inductive rK (P:Program):List Ins->List FP->St->St->Prop
 | nil (st:St):rK P [] [] st st
 | cons (orc:Option bJ) (i:Ins) (is:List Ins) (f:FP) (fs:List FP) (st s1 st':St):xH P orc->exec orc st i=some s1->(fp orc st i).Sub f->rK P is fs s1 st'->rK P (i::is) (f::fs) st st'
section
variable {P:Program} {K:Ctx} {Z Z':Cz} {st st' st2:St} {w w':World} {a:Act} {orc:Option bJ} {d:Nat} {v:AV} {ops:Array Oper} {Q:Exit->Act->World->Prop}
theorem rK.items:∀ {is:List Ins} {fs:List FP} {st st':St},rK P is fs st st'->∃ items:List Item,items.map (·.1.2)=is/\items.map (·.2)=fs/\(∀ x∈items,xH P x.1.1)/\fX items st st'
 | _,_,_,_,.nil st=>⟨[],rfl,rfl,by simp,.nil st⟩
 | _,_,_,_,.cons orc i is f fs st s1 st' m n o h3=>by obtain⟨items,b,j,k,l⟩:=rK.items h3;exact⟨((orc,i),f)::items,by simp[b],by simp[j],λx p=>(cI.1 p).elim (λh=>h ▸ m) (k x),.cons _ _ _ _ _ n o l⟩
theorem Qk{it:Nat->Item}:∀ (R:List Nat) {st:St} {Z:Cz} {w:World} {a:Act},(∀ i∈R,∃ o,ops[i]?=some o/\xL P K.N ops o=some (it i).1.2/\xH P (it i).1.1)->fX (R.map it) st st'->aN K Z st w a ->
  (∀ Z' w' b,aN K Z' st' w' b->cY Z st Z' st'->Q .normal b w')->wpOps P ops Q R a w
 | [],st,Z,w,a,_,h,l,f=>by cases h;exact f _ _ _ l (cY.refl _ _)
 | i::R,st,Z,w,a,p,h,l,f=>by
  rw[jH]at h;cases h with
  | cons _ _ _ s1 _ z D A =>
   obtain⟨o,s,t,u⟩:=p i (by simp);rw[wpOps_cons];exact HD s t l u z (λZ' w' b m C=>Qk R (λj B=>p j (by simp[B])) A m (λZ2 w2 r n k=>f Z2 w2 r n (C.trans k)))
def oZ(b:Region.Mode)(ops:Array Oper):List Nat->List Nat->Bool
 | [],seen=>(List.range ops.size).all (seen.contains ·)
 | x::r,seen=>(match ops[x]? with
  | some o=>o.after.toList.all λe=>!Region.binds b e||seen.contains e.on
  | none=>false)&&oZ b ops r (x::seen)
theorem ML{u:Region.Mode}{b:Array Bool}:∀ (L seen:List Nat),b.size=ops.size->oZ u ops L seen=true->(∀ x∈seen,b.getD x false=true)->(∃ i,i<ops.size/\b.getD i true=false)->Region.ready u ops b≠[]
 | [],seen,_,h,k,⟨i,D,n⟩=>by
  simp only[oZ,List.all_eq_true,List.mem_range]at h;have f:=k i (by simpa using h i D);obtain l|l:=Nat.lt_or_ge i b.size
  .simp[l]at f n;rw[f]at n;cases n
  .simp[E1 l]at f
 | x::r,seen,j,h,k,m=>by
  simp only[oZ,jO]at h;obtain⟨f,A⟩:=h;split at f
  .rename_i o z;cases s:b.getD x true with
   | false =>
    intro E;have:x∈Region.ready u ops b:=mem_ready.2 ⟨s,o,z,λe C B=>by
     have:=List.all_eq_true.1 f e (by simpa using C);simp[B]at this;exact k _ this⟩
    rw[E]at this;cases this
   | true =>
    have p:x<b.size:=by rw[j];exact(sH.1 z).1
    refine ML r (x::seen) j A (λy t=>?_) m;obtain rfl|t:=cI.1 t
    .simp[p]at s ⊢;exact s
    .exact k y t
  .cases f
def Pn{b:Region.Mode}{e:Edge}(h:Region.binds .any e=true):Region.binds b e=true:=by unfold Region.binds at h ⊢;cases f:e.ground<;>simp_all
inductive xF (ops:Array Oper):Nat->Nat->Prop
 | one {x y:Nat} {o:Oper} {e:Edge}:ops[x]?=some o->e∈o.after->e.on=y->Region.binds .any e=true->xF ops y x
 | more {x y z:Nat} {o:Oper} {e:Edge}:xF ops y z->ops[x]?=some o->e∈o.after->e.on=z->Region.binds .any e=true->xF ops y x
theorem Qj{md:Region.Mode}{it:Nat->Item}{pre:Nat->List Nat}(u:∀ x o,ops[x]?=some o->∀ y∈pre x,xF ops y x)
  (hc:∀ i,i<ops.size->∃ o,ops[i]?=some o/\xL P K.N ops o=some (it i).1.2/\xH P (it i).1.1) {L:List Nat} (m:oZ md ops L []=true) :
  ∀ (n:Nat) (R:List Nat) {b:Array Bool} {st st':St} {Z:Cz} {w:World} {a:Act},R.length=n->R.Nodup->b.size=ops.size->(∀ y z,b.getD z false=true->xF ops y z->b.getD y false=true)->(∀ i,i∈R ↔ i<ops.size/\b.getD i true=false) ->
   R.Pairwise (λy x=>y∈pre x\/yb (it y).2 (it x).2=true)->fX (R.map it) st st'->aN K Z st w a ->
   (∀ Z' w' a',aN K Z' st' w' a'->cY Z st Z' st'->Q .normal a' w')->wpAny P md ops Q n b a w
 | 0,R,b,st,st',Z,w,a,hn,_,l,_,I,_,k,hs,hQ=>by
  have:R=[]:=List.length_eq_zero_iff.1 hn;subst this;refine⟨?_,?_⟩
  .apply TO.2;intro i S;obtain⟨h1,o,p,_⟩:=mem_ready.1 S;have:=(I i).2 ⟨(sH.1 p).1,h1⟩;cases this
  .cases k;exact hQ _ _ _ hs (cY.refl _ _)
 | n+1,R,b,st,st',Z,w,a,hn,al,l,O,I,X,k,hs,hQ=>by
  refine⟨λhr=>?_,λi S=>?_⟩
  .exact absurd hr (ML L [] l m (by simp) (by
    obtain⟨i,S⟩:∃ i,i∈R:=by
     cases R with
     | nil=>simp at hn
     | cons i r=>exact⟨i,by simp⟩
    exact⟨i,(I i).1 S⟩))
  .obtain⟨h1,o,p,h3⟩:=mem_ready.1 S;have ag:=(I i).2 ⟨(sH.1 p).1,h1⟩;obtain⟨ys,xs,rfl⟩:=NC ag;have gd:∀ e∈o.after,Region.binds .any e=true->b.getD e.on false=true:=by
    intro e he hb;have C:=h3 e he (Pn hb);obtain B|B:=pW e.on b.size
    .simp[B]at C ⊢;exact C
    .simp[E1 B]at C
   have s:∀ y,xF ops y i->b.getD y false=true:=by
    intro y A;cases A with
    | one H k2 M k4=>rw[p]at H;cases H;rw[<- M];exact gd _ k2 k4
    | more k0 H k2 M k4=>rw[p]at H;cases H;exact O _ _ (by rw[<- M];exact gd _ k2 k4) k0
   have U:∀ y∈ys,yb (it y).2 (it i).2=true:=by
    intro y A;have:=(tY.1 X).2.2 y A i (by simp);obtain h|h:=this
    .have C:=s y (u i o p y h);have h5:=((I y).1 (by simp[A])).2;obtain B|B:=pW y b.size
     .simp[B]at C h5;rw[C]at h5;cases h5
     .simp[E1 B]at C
    .exact h
   rw[sS,jH]at k;obtain⟨st1,F,t⟩:=fX.front k (λy A=>by obtain⟨z,J,rfl⟩:=cA.1 A;exact U z J);cases F with
   | cons _ _ _ s1 _ H k2 M =>
    obtain⟨o',e1,e2,e3⟩:=hc i (Array.getElem?_eq_some_iff.1 p).1;refine HD e1 e2 hs e3 H (λZ' w' a' G hp=>?_);have f:=List.nodup_append.1 al;have V:i∉ys:=λh=>f.2.2 i h i (by simp) rfl;have W:i∉xs:=(List.nodup_cons.1 f.2.1).1;rw[<- List.map_append]at M;refine Qj u hc m n (ys++xs) (by simp at hn ⊢;omega) ?_ (by simpa using l) ?_ ?_ ?_ M G ?_
    .refine GS.2 ⟨f.1,(uL.1 f.2.1).2,λy A z J=>f.2.2 y A z (by simp[J])⟩
    .intro y z J ad;by_cases Y:y=i
     .subst Y;have E:y<b.size:=by rw[l];exact(sH.1 p).1
      simp[E]
     .rw[getD_set_ne false (wJ Y)];by_cases af:z=i
      .subst af;exact s y ad
      .rw[getD_set_ne false (wJ af)]at J;exact O y z J ad
    .intro j;by_cases D:j=i
     .subst D;have E:j<b.size:=by rw[l];exact(sH.1 p).1
      simp[V,W,E]
     .rw[getD_set_ne true (wJ D),<- I j];simp[D]
    .refine JF ?_ X;exact List.Sublist.append_left (List.sublist_cons_self _ _) _
    .intro Z2 w' a' G ao;refine hQ _ _ _ (G.eqv (iw.symm t)) ((hp.trans ao).trans (.dW (sC (iw.symm t).site _)))
end
def yS(ops:List Oper):List (List Nat):=ops.map λo=>(o.after.toList.filter (Region.binds .any)).map (·.on)
def BB:List Nat->List Nat
 | []=>[]
 | x::l=>if (BB l).contains x then BB l else x::BB l
def xC:List (List Nat)->List (List Nat)->List (List Nat)
 | b,[]=>b
 | b,p::f=>xC (b++[BB (p++p.flatMap λy=>b.getD y [])]) f
def NO(ops:Array Oper):Bool :=
 oZ .any ops (List.range ops.size) []&&(!Region.departs ops||(oZ .text ops (List.range ops.size) []&&oZ .gc ops (Region.linearise .gc ops 0) []))
def comp(P:Program)(N:Nat):Code->Option AC
 | .skip=>some .js
 | .region _ ops f=>if f=true then(if NO ops=true then(CO P N ops ops.toList).map λl=>.fR l (xC [] (yS ops.toList))else none)else(CO P N ops ops.toList).map .cX
 | .seq a b=>match comp P N a,comp P N b with
  | some x,some y=>some (.seq x y)
  | _,_=>none
 | .cond c a b=>match dJ c,comp P N a,comp P N b with
  | some c,some x,some y=>some (.cond c x y)
  | _,_,_=>none
 | .block id b=>(comp P N b).map (.bX id)
 | .loop b=>(comp P N b).map .loop
 | .exit id=>some (.ext id)
 | .ret=>some .ret
 | .label _=>some .js
 | .scope b=>(comp P N b).map .Dp
 | _=>none
def aJ:List (Nat × FP)->Nat->List FP->List (List Nat)->Bool
 | _,_,[],_=>true
 | done,n,f::b,h::nX=>(done.all λ(y,g)=>h.contains y||yb g f)&&aJ ((n,f)::done) (n+1) b nX
 | _,_,_::_,[]=>false
section
variable {P:Program} {K:Ctx} {Z Z':Cz} {st st' st1 st2:St} {w w':World} {a:Act} {orc:Option bJ} {d N:Nat} {v:AV} {ops:Array Oper} {Q:Exit->Act->World->Prop}
theorem K8:∀ {done:List (Nat × FP)} {n:Nat} {i:List FP} {nX:List (List Nat)},aJ done n i nX=true->∀ (x:Nat) (f:FP),i[x]?=some f ->
  (∀ y g,(y,g)∈done->y∈nX.getD x []\/yb g f=true)/\∀ y g,i[y]?=some g->y<x->n+y∈nX.getD x []\/yb g f=true
 | _,_,[],_,_,x,f,b=>by simp at b
 | done,n,l::i,[],h,x,f,b=>by simp[aJ]at h
 | done,n,l::i,s::nX,h,x,f,b=>by
  simp only[aJ,jO,k8]at h;obtain⟨o,p⟩:=h;cases x with
  | zero =>
   simp only[List.getElem?_cons_zero,Option.some.injEq]at b;subst b;refine⟨λy g j=>?_,λy g _ j=>by omega⟩;have:=o (y,g) j;simpa using this
  | succ x =>
   obtain⟨m,r⟩:=K8 p x f (by simpa using b);refine⟨λy g j=>?_,λy g k j=>?_⟩
   .simpa using m y g (by simp[j])
   .cases y with
    | zero =>
     simp only[List.getElem?_cons_zero,Option.some.injEq]at k;subst k;simpa using m n l (by simp)
    | succ y =>
     have:=r y g (by simpa using k) (by omega);simpa[Nat.add_assoc,Nat.add_comm 1]using this
theorem C4:∀ {l:List Oper} {b:List Ins},CO P N ops l=some b->b.length=l.length/\∀ (i:Nat) (o:Oper),l[i]?=some o->∃ x,xL P N ops o=some x/\b[i]?=some x
 | [],b,h=>by simp[CO]at h;subst h;simp
 | o::l,b,h=>by
  simp only[CO]at h;split at h
  .rename_i x r j k;cases h;obtain⟨m,n⟩:=C4 k;refine⟨by simp[m],λi p f=>?_⟩;cases i with
   | zero=>simp at f;subst f;exact⟨x,j,rfl⟩
   | succ i=>simpa using n i p (by simpa using f)
  .cases h
def cU(P:Program)(N:Nat)(ac:AC)(st:St)(ex:Exit)(st':St):Prop :=
 ∀ b,comp P N b=some ac->∀ (K:Ctx) (Z:Cz) (w:World) (a:Act) (Q:Exit->Act->World->Prop),K.N=N->aN K Z st w a->(∀ Z' w' f,aN K Z' st' w' f->cY Z st Z' st'->Q ex f w')->b.wp P Q a w
def aA(st st':St):Prop:=∀ (K:Ctx) (Z:Cz) (w:World) (a:Act),aN K Z st w a->∃ Z',aN K Z' st' w a/\cY Z st Z' st'
theorem aA.refl(st:St):aA st st:=λ_ Z _ _ h=>⟨Z,h,cY.refl _ _⟩
theorem aA.trans(h:aA st st1)(k:aA st1 st2):aA st st2:=λK Z w a hs=>let ⟨Z',b,p⟩:=h K Z w a hs;let ⟨Z2,f,i⟩:=k K Z' w a b;⟨Z2,f,p.trans i⟩
def tS:Item:=((none,⟨none,.bad,none⟩),⟨[],[],[],[]⟩)
def LK{k:List Ins}{items:List Item}(l:items.map (·.1.2)=k)(m:∀ x∈items,xH P x.1.1)(p:CO P N ops ops.toList=some k) :
  ∀ i,i<ops.size->∃ o,ops[i]?=some o/\xL P N ops o=some (items.getD i tS).1.2/\xH P (items.getD i tS).1.1:=by
 intro i j;obtain⟨r,n⟩:=C4 p;have s:ops[i]?=some ops[i]:=Array.getElem?_eq_getElem j;obtain⟨x,t,f⟩:=n i ops[i] (by simp[j]);have h:items.length=k.length:=by rw[<- l];simp
 have b:i<items.length:=by rw[h,r];simpa using j
 refine⟨ops[i],s,?_,?_⟩
 .rw[<- l]at f;simp[b]at f;rw[t,<- f];simp[b]
 .have:items.getD i tS=items[i]:=by simp[b]
  rw[this];exact m _ (bU b)
def M3{α : Type}(l:List α)(d : α)(n:Nat)(h:l.length=n):(List.range n).map (λi=>l.getD i d)=l:=by
 apply E6;intro i;by_cases b:i<n
 .have:i<l.length:=by omega
  simp[b,this]
 .have:l.length<=i:=by omega
  simp[b,this]
theorem cU.cX{is:List Ins}{fs:List FP}(h:rK P is fs st st'):cU P N (.cX is) st .normal st':=by
 intro code f K Z w a Q t hs u;cases code<;>simp only[comp]at f
 case region id ops j =>
  split at f
  .split at f
   .obtain⟨l,_,k⟩:=cO f;cases k
   .cases f
  .rename_i hd;obtain⟨l,p,k⟩:=cO f;cases k;have:j=false:=by simpa using hd
   subst this;refine wp_region ?_;subst t;obtain⟨b,o,z,r,s⟩:=h.items;have hl:=(C4 p).1;have m:b.length=ops.size:=by rw[<- Array.length_toList,<- hl,<- o];simp
   have n:fX ((List.range ops.size).map λi=>b.getD i tS) st st':=by rw[M3 _ _ _ m];exact s
   exact Qk _ (λi hi=>LK o r p i (yF.1 hi)) n hs u
 all_goals (first|cases f|(split at f<;>cases f)|(obtain⟨_,_,k⟩:=cO f;cases k))
theorem Xy{l:List Nat}{x:Nat}(h:x∈BB l):x∈l:=by
 induction l with
 | nil=>exact h
 | cons y l b =>
  simp only[BB]at h;split at h
  .exact tX _ (b h)
  .obtain rfl|h:=cI.1 h
   .simp
   .exact tX _ (b h)
theorem Pq{ops:Array Oper}:∀ {ps acc:List (List Nat)},(∀ x y,y∈acc.getD x []->xF ops y x) ->
  (∀ i p,ps[i]?=some p->∀ z∈p,∃ o e,ops[acc.length+i]?=some o/\e∈o.after/\e.on=z/\Region.binds .any e=true)->∀ x y,y∈(xC acc ps).getD x []->xF ops y x
 | [],acc,h,_,x,y,b=>h x y b
 | p::ps,acc,h,j,x,y,b=>by
  refine Pq (acc:=acc++[BB (p++p.flatMap λy=>acc.getD y [])]) ?_ ?_ x y b
  .intro x y b;obtain f|f|f:=NB x acc.length
   .rw[eV,wN f,<- List.getD_eq_getElem?_getD]at b;exact h x y b
   .subst f;simp only[eV,qG (dE _),Db,List.getElem?_cons_zero,xW]at b;obtain b|b:=dN.1 (Xy b)
    .obtain⟨o,e,l,m,n,r⟩:=j 0 p rfl y b;exact .one l m n r
    .obtain⟨z,k,b⟩:=kC.1 b;obtain⟨o,e,l,m,n,r⟩:=j 0 p rfl z k;exact .more (h z y (by rw[eV];exact b)) l m n r
   .have:(acc++[BB (p++p.flatMap λy=>acc.getD y [])])[x]?=none:=E0 (by simp;omega);rw[eV,this]at b;simp at b
  .intro i q s z k;have:=j (i+1) q s z k;simpa[Nat.add_assoc,Nat.add_comm 1 i]using this
theorem LU(ops:Array Oper)(x y:Nat)(h:y∈(xC [] (yS ops.toList)).getD x []):xF ops y x:=by
 refine Pq (ops:=ops) (by simp) ?_ x y h;intro i p b z l;simp only[yS,EZ,Array.getElem?_toList]at b;cases j:ops[i]? with
 | none=>rw[j]at b;cases b
 | some o =>
  rw[j]at b;simp only[Option.map_some,Option.some.injEq]at b;subst b;obtain⟨e,k,f⟩:=List.mem_map.1 l;have:=List.mem_filter.1 k;exact⟨o,e,by simpa using j,by simpa using this.1,f,this.2⟩
theorem cU.fR{is:List Ins}{fs:List FP}{pre:List (List Nat)}(h:rK P is fs st st')(hp:aJ [] 0 fs pre=true):cU P N (.fR is pre) st .normal st':=by
 intro code k K Z w a Q O hs R;cases code<;>simp only[comp]at k
 case region id ops D =>
  split at k
  .rename_i hd;subst hd;split at k
   .rename_i H;obtain⟨l,G,m⟩:=cO k;cases m;subst O;obtain⟨b,E,F,I,J⟩:=h.items;have hl:=(C4 G).1;have j:b.length=ops.size:=by rw[<- Array.length_toList,<- hl,<- E];simp
    have n:fX ((List.range ops.size).map λi=>b.getD i tS) st st':=by rw[M3 _ _ _ j];exact J
    have f:∀ (C:Region.Mode) (L:List Nat),oZ C ops L []=true->wpAny P C ops Q ops.size (Array.replicate ops.size false) a { w with drawn:=w.drawn+1 }:=by
     intro C L M;refine Qj (pre:=λi=>(xC [] (yS ops.toList)).getD i []) (it:=λi=>b.getD i tS) ?_ (LK E I G) M ops.size (List.range ops.size) (by simp) List.nodup_range (by simp) (λy z hz _=>by simp[JE,NA]at hz;split at hz<;>simp at hz) (λi=>by simp;intro hi;simp[hi]) ?_ n (Z:=Z) ⟨hs.aY,hs.defers,hs.size,hs.heap.drew⟩ R
     .intro x o V y p;exact LU ops x y p
     .refine JD ?_ Nz;intro y x p A B;have A:=yF.1 A;have p:=yF.1 p;have s:fs[x]?=some (b.getD x tS).2:=by rw[<- F];simp[j,A]
      have u:fs[y]?=some (b.getD y tS).2:=by rw[<- F];simp[j,p]
      simpa using (K8 hp x _ s).2 y _ u B
    simp only[NO,jO,Dc,Ny]at H;obtain⟨S,r⟩:=H;refine wp_region_draw λt=>?_;unfold Region.schedule;split
    .exact wpAny_sound ops.size t _ a _ (f .any _ S)
    .rename_i hm;obtain r|⟨r,U⟩:=r
     .simp[r]at hm
     .split
      .exact wpAny_sound ops.size _ _ a _ (f .text _ r)
      .exact wpAny_sound ops.size _ _ a _ (f .gc _ U)
   .cases k
  .obtain⟨l,_,m⟩:=cO k;cases m
 all_goals (first|cases k|(split at k<;>cases k)|(obtain⟨_,_,m⟩:=cO k;cases m))
end
inductive gu (P:Program) (N:Nat) (body:AC):St->Exit->St->Prop
 | out (st:St) (ex:Exit) (st':St):cU P N body st ex st'->ex ≠ .normal->gu P N body st ex st'
 | next (st st1:St) (ex:Exit) (st':St):cU P N body st .normal st1->gu P N body st1 ex st'->gu P N body st ex st'
section
variable {P:Program} {K:Ctx} {Z Z':Cz} {st st' st1 st2:St} {w w':World} {a:Act} {N:Nat} {x y:AC} {ex:Exit}
theorem cU.js:cU P N .js st .normal st:=by
 intro code b K Z w a Q i hs f;cases code<;>simp only[comp]at b
 case skip=>exact wp_skip (f _ _ _ hs (cY.refl _ _))
 case label=>exact wp_label (f _ _ _ hs (cY.refl _ _))
 all_goals (repeat' split at b)<;>first|cases b|(obtain⟨_,_,h⟩:=cO b;cases h)
theorem cU.ret:cU P N .ret st .ret st:=by
 intro code b K Z w a Q i hs h;cases code<;>simp only[comp]at b
 case ret=>exact wp_ret (h _ _ _ hs (cY.refl _ _))
 all_goals (repeat' split at b)<;>first|cases b|(obtain⟨_,_,f⟩:=cO b;cases f)
theorem cU.ext{id:Nat}:cU P N (.ext id) st (.exit id) st:=by
 intro code b K Z w a Q i hs h;cases code<;>simp only[comp]at b
 case exit=>cases b;exact wp_exit (h _ _ _ hs (cY.refl _ _))
 all_goals (repeat' split at b)<;>first|cases b|(obtain⟨_,_,f⟩:=cO b;cases f)
def K0{f:Code}(h:comp P N f=some (.seq x y)):∃ a b,f=.seq a b/\comp P N a=some x/\comp P N b=some y:=by
 cases f<;>simp only[comp]at h
 case seq a b =>
  split at h
  .rename_i j i;cases h;exact⟨a,b,rfl,j,i⟩
  .cases h
 all_goals (repeat' split at h)<;>first|cases h|(obtain⟨_,_,i⟩:=cO h;cases i)
theorem cU.seq(h:cU P N x st .normal st1)(k:cU P N y st1 ex st'):cU P N (.seq x y) st ex st':=by intro code t K Z w a Q j hs s;obtain⟨n,o,rfl,p,r⟩:=K0 t;exact wp_seq (h n p K Z w a _ j hs λZ' w' l f hp=>k o r K Z' w' l Q j f (λZ2 w2 m i b=>s Z2 w2 m i (hp.trans b)))
theorem cU.NU(h:cU P N x st ex st')(m:ex ≠ .normal):cU P N (.seq x y) st ex st':=by intro code l K Z w a Q j hs k;obtain⟨f,o,rfl,i,p⟩:=K0 l;refine wp_seq (h f i K Z w a _ j hs λZ' w' n b hp=>?_);cases ex<;>first|exact absurd rfl m|exact k _ _ _ b hp
def Td{f:Code}{c:bP}(h:comp P N f=some (.cond c x y)):∃ o a b,f=.cond o a b/\dJ o=some c/\comp P N a=some x/\comp P N b=some y:=by
 cases f<;>simp only[comp]at h
 case cond o a b =>
  split at h
  .rename_i j i k;cases h;exact⟨o,a,b,rfl,j,i,k⟩
  .cases h
 all_goals (repeat' split at h)<;>first|cases h|(obtain⟨_,_,i⟩:=cO h;cases i)
theorem cU.cond{c:bP}{t:Bool}(s:st.ev c=.p (.bool t))(h:cU P N (if t then x else y) st ex st'):cU P N (.cond c x y) st ex st':=by
 intro code r K Z w a Q b hs f;obtain⟨o,j,k,rfl,l,m,n⟩:=Td r;have i:=fH l hs;rw[s]at i;refine wp_cond i.fT ?_;cases t with
 | true=>exact h j m K Z w a Q b hs f
 | false=>exact h k n K Z w a Q b hs f
def cU.Hn{c:bP}(b:st.ev c=.p (.bool true))(h:cU P N x st ex st'):cU P N (.cond c x y) st ex st':=.cond b (t:=true) h
def cU.Ho{c:bP}(b:st.ev c=.p (.bool false))(h:cU P N y st ex st'):cU P N (.cond c x y) st ex st':=.cond b (t:=false) h
def HG{f:Code}{id:Nat}(h:comp P N f=some (.bX id x)):∃ b,f=.block id b/\comp P N b=some x:=by
 cases f<;>simp only[comp]at h
 case block id b=>obtain⟨z,j,i⟩:=cO h;cases i;exact⟨b,rfl,j⟩
 all_goals (repeat' split at h)<;>first|cases h|(obtain⟨_,_,i⟩:=cO h;cases i)
theorem cU.bX{id:Nat}(h:cU P N x st ex st')(n:∀ j,ex ≠ .exit j):cU P N (.bX id x) st ex st':=by intro code m K Z w a Q k hs l;obtain⟨b,rfl,i⟩:=HG m;refine wp_block (h b i K Z w a _ k hs λZ' w' o f hp=>?_);cases ex<;>first|exact absurd rfl (n _)|exact l _ _ _ f hp
theorem cU.Oy{id:Nat}(h:cU P N x st (.exit id) st'):cU P N (.bX id x) st .normal st':=by intro code l K Z w a Q j hs k;obtain⟨b,rfl,i⟩:=HG l;refine wp_block (h b i K Z w a _ j hs λZ' w' m f hp=>?_);simp only[Exit.inBlock,cH];exact k _ _ _ f hp
theorem cU.Ox{id j:Nat}(h:cU P N x st (.exit j) st')(n:j≠id):cU P N (.bX id x) st (.exit j) st':=by intro code m K Z w a Q k hs l;obtain⟨b,rfl,i⟩:=HG m;refine wp_block (h b i K Z w a _ k hs λZ' w' o f hp=>?_);simp only[Exit.inBlock,n,fQ];exact l _ _ _ f hp
def Ty{f:Code}(h:comp P N f=some (.loop x)):∃ b,f=.loop b/\comp P N b=some x:=by
 cases f<;>simp only[comp]at h
 case loop b=>obtain⟨z,j,i⟩:=cO h;cases i;exact⟨b,rfl,j⟩
 all_goals (repeat' split at h)<;>first|cases h|(obtain⟨_,_,i⟩:=cO h;cases i)
theorem gu.key{c:Code}(t:comp P N c=some x)(s:K.N=N):∀ {st:St} {ex:Exit} {st':St},gu P N x st ex st'->∀ {Z:Cz} {w:World} {a:Act} {Q:Exit->Act->World->Prop},aN K Z st w a->(∀ Z' w' i,aN K Z' st' w' i->cY Z st Z' st'->Q ex i w') ->
  ∀ (b:Frame) (k:List Go.Item) (cs:List Frame),∃ e i w',Q e i w'/\Arrives P (lone (b.at a (.code c::.inLoop c::k)) cs w) b k cs e i w':=by
 intro st ex st' h
 induction h with
 | out st ex st' h z =>
  intro Z w a Q hs n b k cs;obtain⟨e,a1,w1,⟨rfl,hq⟩,j⟩:=h c t K Z w a (λe i w'=>e=ex/\∃ Z',aN K Z' st' w' i/\cY Z st Z' st') s hs (λZ' w' i f hp=>⟨rfl,Z',f,hp⟩) b (.inLoop c::k) cs;obtain⟨Z',f,hp⟩:=hq;exact⟨e,a1,w1,n _ _ _ f hp,.pass (x:=.inLoop c) rfl (λ_ _=>.inl z) j⟩
 | next st st1 ex st' h hl A =>
  intro Z w a Q hs n b k cs;obtain⟨e,a1,w1,⟨rfl,hq⟩,j⟩:=h c t K Z w a (λe i w'=>e=.normal/\∃ Z',aN K Z' st1 w' i/\cY Z st Z' st1) s hs (λZ' w' i f hp=>⟨rfl,Z',f,hp⟩) b (.inLoop c::k) cs;obtain⟨Z',f,hp⟩:=hq;obtain⟨u,m,w2,p,l⟩:=A f (λZ2 w2 m r o=>n Z2 w2 m r (hp.trans o)) b k cs;exact⟨u,m,w2,p,.of_steps (Steps.trans j (.one step_inLoop)) l⟩
theorem cU.loop(h:gu P N x st ex st'):cU P N (.loop x) st ex st':=by intro code n K Z w a Q l hs m;obtain⟨c,rfl,j⟩:=Ty n;intro b k cs;obtain⟨e,i,w',hq,f⟩:=h.key j l hs m b k cs;exact⟨e,i,w',hq,.of_steps (.one step_loop) f⟩
theorem cU.nK(h:aA st st1)(k:cU P N x st1 ex st'):cU P N x st ex st':=by intro code n K Z w a Q l hs m;obtain⟨Z',f,hp⟩:=h K Z w a hs;exact k code n K Z' w a Q l f (λZ2 w2 j i b=>m Z2 w2 j i (hp.trans b))
theorem cU.sU(k:cU P N x st ex st1)(h:aA st1 st'):cU P N x st ex st':=by intro code n K Z w a Q l hs m;refine k code n K Z w a Q l hs (λZ' w' j f hp=>?_);obtain⟨i,b,iO⟩:=h K Z' w' j f;exact m _ _ _ b (hp.trans iO)
theorem gu.nK(h:aA st st1)(k:gu P N x st1 ex st'):gu P N x st ex st':=by
 cases k with
 | out _ _ _ k b=>exact .out _ _ _ (.nK h k) b
 | next _ s1 _ _ k hl=>exact .next _ s1 _ _ (.nK h k) hl
end
def aO:Nat:=999999
def nF(ids:List ((Nat × Nat) × Nat))(s g:Nat):Nat :=
 match ids with
 | []=>aO
 | ((f,b),s1)::r=>if f=s/\b=g then s1 else nF r s g
mutual
def eo(c6:List Nat)(ids:List ((Nat × Nat) × Nat)):AV->AV
 | .own s g b i=>if c6.contains s=true then .own s g b i else .own (nF ids s g) 0 b i
 | .ptr s g k b=>if c6.contains s=true then .ptr s g k b else .ptr (nF ids s g) 0 k b
 | .agg h=>.agg (fq c6 ids h)
 | .fn f h=>.fn f (fq c6 ids h)
 | .bM h=>.bM (fq c6 ids h)
 | .p v=>.p v
 | .nil=>.nil
 | .cp v j b=>.cp v j b
 | .skip=>.skip
 | .undef=>.undef
def fq(c6:List Nat)(ids:List ((Nat × Nat) × Nat)):List AV->List AV
 | []=>[]
 | v::r=>eo c6 ids v::fq c6 ids r
end
def aB(sl:List (Nat × AV))(b:List (Nat × bI)):St:=⟨sl,b.map (λq=>(q.1,[some q.2]))++[(aO,[none])]⟩
def Eg(c6:List Nat)(st:St)(ids:List ((Nat × Nat) × Nat)):List ((Nat × Nat) × Nat)->Option (List (Nat × bI))
 | []=>some []
 | ((s,g),b)::r=>match st.obj s g,Eg c6 st ids r with
  | some o,some l=>some ((b,⟨o.sz,fq c6 ids o.es⟩)::l)
  | _,_=>none
def xK:List Nat->Bool
 | []=>true
 | x::r =>!r.contains x&&xK r
def Fo:List (Nat × Nat)->Bool
 | []=>true
 | x::r =>!r.contains x&&Fo r
def JS(c6:List Nat)(ids:List ((Nat × Nat) × Nat))(hp:List Site):Bool:=hp.all λq=>decide (q.1<fU)||decide (999999<=q.1)||c6.contains q.1||(ids.contains ((q.1,0),q.1)&&decide (q.2.length<=1))
def St.mX(st:St)(keep:List Nat)(c6:List Nat)(ids:List ((Nat × Nat) × Nat)):Option St :=
 if (Fo (ids.map (·.1))&&xK (aO::ids.map (·.2))&&JS c6 ids st.hp&&c6.all λs=>!(s == aO) && !(ids.map (·.2)).contains s && !(ids.map (·.1.1)).contains s&&(st.site s).all (vT c6))=true then
  (Eg c6 st ids ids).map λbT=>⟨keep.map λt=>(t,eo c6 ids (st.get t)),c6.map (λs=>(s,st.site s))++(aB [] bT).hp⟩
 else none
def St.yI(st:St)(keep:List Nat)(ids:List ((Nat × Nat) × Nat)):Option St:=st.mX keep [] ids
section
variable {P:Program} {K:Ctx} {Z Z':Cz} {st st' st1 st2:St} {w w':World} {a:Act} {N:Nat} {c6:List Nat} {ids:List ((Nat × Nat) × Nat)}
theorem tV:∀ (l:List AV),fq c6 ids l=l.map (eo c6 ids)
 | []=>rfl
 | v::r=>by simp[fq,tV r]
theorem Ur(l:List PV):fq c6 ids (l.map .p)=l.map .p:=by rw[tV,yG];apply uK;intro x _;rfl
def ZQ(v:AV):(eo c6 ids v).sz=v.sz:=by cases v<;>simp[eo]<;>(try split)<;>simp[AV.sz,tV]
def SL(v:AV):(eo c6 ids v).one=v.one:=by cases v<;>simp[eo]<;>(try split)<;>simp[AV.one]
theorem XQ(v:AV):(eo c6 ids v).cells=v.cells.map (eo c6 ids):=by
 cases v with
 | own s g f b=>simp only[eo];split<;>simp only[AV.cells,jH,JC,eo]<;>simp only[*,cH,fQ,gP]
 | ptr s g f b=>simp only[eo];split<;>simp only[AV.cells,jH,JC,eo]<;>simp only[*,cH,fQ,gP]
 | agg h=>simp[eo,AV.cells,tV]
 | p v=>?_
 | _=>rfl
 cases v<;>first|rfl|skip
 simp only[AV.cells,yG];apply uK;intro x _;rfl
theorem QF(es:List AV):(fq c6 ids es).flatMap AV.cells=(es.flatMap AV.cells).map (eo c6 ids):=by
 induction es with
 | nil=>rfl
 | cons e es b=>simp[fq,b,XQ]
mutual
theorem ZP:∀ {v:AV},pR c6 v=true->eo c6 ids v=v
 | .own s g i b,h=>by simp only[pR]at h;simp only[eo,h,cH]
 | .ptr s g i b,h=>by simp only[pR]at h;simp only[eo,h,cH]
 | .agg j,h=>by simp only[pR]at h;simp only[eo,wC h]
 | .fn f j,h=>by simp only[pR]at h;simp only[eo,wC h]
 | .bM j,h=>by simp only[pR]at h;simp only[eo,wC h]
 | .p _,_ | .nil,_ | .cp _ _ _,_ | .skip,_ | .undef,_=>rfl
theorem wC:∀ {l:List AV},lC c6 l=true->fq c6 ids l=l
 | [],_=>rfl
 | v::r,h=>by simp only[lC,jO]at h;simp only[fq,ZP h.1,wC h.2]
end
theorem I5:∀ {l:List Nat},xK l=true->l.Nodup
 | [],_=>List.nodup_nil
 | x::r,h=>by simp[xK]at h;exact List.nodup_cons.2 ⟨by simpa using h.1,I5 h.2⟩
theorem Rc:∀ {l:List (Nat × Nat)},Fo l=true->l.Nodup
 | [],_=>List.nodup_nil
 | x::r,h=>by simp[Fo]at h;exact List.nodup_cons.2 ⟨by simpa using h.1,Rc h.2⟩
def ET(ids:List ((Nat × Nat) × Nat))(b:Nat):Option (Nat × Nat) :=
 match ids with
 | []=>none
 | (i,s1)::r=>if s1=b then some i else ET r b
theorem En:∀ {ids:List ((Nat × Nat) × Nat)} {s g:Nat},nF ids s g≠aO->((s,g),nF ids s g)∈ids
 | [],s,g,h=>by simp[nF]at h
 | ((i,f),s1)::r,s,g,h=>by
  simp only[nF]at h ⊢;split
  .grind
  .rename_i b;rw[bD b]at h;exact cI.2 (.inr (En h))
theorem B0:∀ {ids:List ((Nat × Nat) × Nat)} {b:Nat} {i:Nat × Nat},(ids.map (·.2)).Nodup->(i,b)∈ids->ET ids b=some i
 | [],_,_,_,h=>by simp at h
 | (j,s1)::r,b,i,f,h=>by
  rw[jH,uL]at f;simp[ET];obtain h|h:=cI.1 h
  .grind
  .rw[bD]
   .exact B0 f.2 h
   .grind
theorem Sh:∀ {ids:List ((Nat × Nat) × Nat)} {i:Nat × Nat} {s f:Nat},(ids.map (·.1)).Nodup->(i,s)∈ids->(i,f)∈ids->s=f
 | [],_,_,_,_,h,_=>by simp at h
 | (k,s1)::r,i,s,f,j,h,b=>by
  rw[jH,uL]at j;obtain h|h:=cI.1 h<;>obtain b|b:=cI.1 b
  .grind
  .grind
  .grind
  .exact Sh j.2 h b
theorem RO{ids:List ((Nat × Nat) × Nat)}:∀ {l:List ((Nat × Nat) × Nat)} {b:List (Nat × bI)},Eg c6 st ids l=some b->(l.map (·.2)).Nodup->aO∉l.map (·.2) ->
  (∀ i f,(i,f)∈l->∃ o,st.obj i.1 i.2=some o/\look (b.map (λq=>(q.1,[some q.2]))++[(aO,[none])]) f []=[some ⟨o.sz,fq c6 ids o.es⟩]) /\
  (∀ f,f∉l.map (·.2)->look (b.map (λq=>(q.1,[some q.2]))++[(aO,[none])]) f []=if aO=f then[none]else[])
 | [],b,h,_,_=>by
  simp only[Eg,cD]at h;subst h;exact⟨by simp,by simp[look]⟩
 | ((s,g),s1)::r,b,h,j,k=>by
  simp only[Eg]at h;split at h
  .rename_i o l t p;cases h;simp only[jH,uL,cI,not_or]at j k;obtain⟨u,z⟩:=RO p j.2 k.2;refine⟨λi f hm=>?_,λf hm=>?_⟩
   .obtain hm|hm:=cI.1 hm
    .cases hm;exact⟨o,t,by simp[look]⟩
    .obtain⟨A,m,n⟩:=u i f hm;refine⟨A,m,?_⟩;have:s1≠f:=by rintro rfl;exact j.1 (cA.2 ⟨_,hm,rfl⟩)
     simpa[look,this]using n
   .simp only[jH,cI,not_or]at hm;have:=z f hm.2;simp only[jH,xX,look]
    grind
  .cases h
def Cz.eo(Z:Cz)(c6:List Nat)(ids:List ((Nat × Nat) × Nat)):Cz where
 M:=Z.M
 B s g:=if c6.contains s=true then Z.B s g else if g=0 then(match ET ids s with|some i=>Z.B i.1 i.2|none=>none)else none
 cap s g:=if c6.contains s=true then Z.cap s g else match ET ids s with|some i=>Z.cap i.1 i.2|none=>0
structure pM (st st':St) (c6:List Nat) (ids:List ((Nat × Nat) × Nat)):Prop where
 old:(ids.map (·.1)).Nodup
 new:(ids.map (·.2)).Nodup
 live:∀ i s',(i,s')∈ids->c6.contains s'=false/\c6.contains i.1=false/\∃ o,st.obj i.1 i.2=some o/\st'.obj s' 0=some ⟨o.sz,fq c6 ids o.es⟩
 all:∀ s' g' o',st'.obj s' g'=some o'->c6.contains s'=true\/(c6.contains s'=false/\g'=0/\∃ i,(i,s')∈ids)
 dead:0<(st'.site aO).length/\st'.obj aO 0=none
 c6:∀ s,c6.contains s=true->st'.site s=st.site s/\∀ g o,st.obj s g=some o->fq c6 ids o.es=o.es
def pM.tC(h:pM st st' c6 ids){s g:Nat}(b:c6.contains s=true):st'.obj s g=st.obj s g:=fB (h.c6 s b).1
mutual
theorem aQ.eo(h:pM st st' c6 ids):∀ {v:AV} {x:Value},aQ Z st v x->aQ (Z.eo c6 ids) st' (Ab.eo c6 ids v) x
 | _,_,.p v x hp=>.p v x hp
 | _,_,.nil=>.nil
 | _,_,.d' s g o r n=>by
  simp only[Ab.eo];split
  .rename_i i;exact .d' _ _ o (by rw[h.tC i];exact r) (by simp only[Cz.eo,i,cH];exact n)
  .by_cases hd:nF ids s g=aO
   .rw[hd];exact .eO _ _ _ _ _ _ h.dead.1 h.dead.2
   .have hm:=En hd;obtain⟨t,_,o',k,m⟩:=h.live _ _ hm;exact .d' _ _ _ m (by simp only[Cz.eo,t,gP,fQ,cH,B0 h.new hm,n])
 | _,_,.own s g off len o b ad c r n k m h3 z=>by
  simp only[Ab.eo];split
  .rename_i i;exact .own _ _ _ _ o b ad c (by rw[h.tC i];exact r) (by simp only[Cz.eo,i,cH];exact n) (by simp only[Cz.eo,i,cH];exact k) m h3 z
  .by_cases hd:nF ids s g=aO
   .rw[hd];exact .eO _ _ _ _ _ _ h.dead.1 h.dead.2
   .have hm:=En hd;obtain⟨t,_,o',j,u⟩:=h.live _ _ hm;simp only at j;rw[r]at j;cases j;exact .own _ _ _ _ _ b ad c u (by simp only[Cz.eo,t,Bool.false_eq_true,if_false,if_true,B0 h.new hm,n]) (by simp only[Cz.eo,t,Bool.false_eq_true,if_false,B0 h.new hm];exact k) m (by simpa[tV]using h3) z
 | _,_,.eO s g off len ad c A l=>by
  simp only[Ab.eo];split
  .rename_i i;exact .eO _ _ _ _ _ _ (by rw[(h.c6 s i).1];exact A) (by rw[h.tC i];exact l)
  .by_cases hd:nF ids s g=aO
   .rw[hd];exact .eO _ _ _ _ _ _ h.dead.1 h.dead.2
   .obtain⟨_,_,o',j,u⟩:=h.live _ _ (En hd);simp only at j;rw[l]at j;cases j
 | _,_,.ptr s g ix off o b r n=>by
  simp only[Ab.eo];split
  .rename_i i;exact .ptr _ _ ix off o b (by rw[h.tC i];exact r) (by simp only[Cz.eo,i,cH];exact n)
  .by_cases hd:nF ids s g=aO
   .rw[hd];exact .kP _ _ _ _ _ h.dead.1 h.dead.2
   .have hm:=En hd;obtain⟨t,_,o',j,u⟩:=h.live _ _ hm;simp only at j;rw[r]at j;cases j;exact .ptr _ _ ix off ⟨o.sz,fq c6 ids o.es⟩ b u (by simp only[Cz.eo,t,gP,fQ,cH,B0 h.new hm,n])
 | _,_,.kP s g ix off ad A l=>by
  simp only[Ab.eo];split
  .rename_i i;exact .kP _ _ _ _ _ (by rw[(h.c6 s i).1];exact A) (by rw[h.tC i];exact l)
  .by_cases hd:nF ids s g=aO
   .rw[hd];exact .kP _ _ _ _ _ h.dead.1 h.dead.2
   .obtain⟨_,_,o',j,u⟩:=h.live _ _ (En hd);simp only at j;rw[l]at j;cases j
 | _,_,.cp v vM off b o cur T fr vals C k m h3 z D=>.cp v vM off b o cur T fr vals C k m h3 z D
 | _,_,.agg cs vals k m=>by
  simp only[Ab.eo];exact .agg _ vals (λc B=>by rw[tV]at B;obtain⟨d,hd,rfl⟩:=cA.1 B;rw[SL];exact k d hd) (aG.eo h m)
 | _,_,.fn f cs vals k=>by simp only[Ab.eo];exact .fn f _ vals (aG.eo h k)
 | _,_,.bM vs vals k=>by simp only[Ab.eo];exact .bM _ vals (aG.eo h k)
 | _,_,.skip=>.skip
 | _,_,.undef x=>.undef x
theorem aG.eo(h:pM st st' c6 ids):∀ {v:List AV} {x:List Value},aG Z st v x->aG (Z.eo c6 ids) st' (fq c6 ids v) x
 | _,_,.nil=>.nil
 | _,_,.cons v x vs xs b hs=>.cons _ _ _ _ (aQ.eo h b) (aG.eo h hs)
end
theorem bG.eo(h:bG K Z st w)(r:pM st st' c6 ids):bG K (Z.eo c6 ids) st' w:=by
 have f:∀ {s g:Nat} {o:bI},st'.obj s g=some o->∃ i m,st.obj i.1 i.2=some m/\o=⟨m.sz,fq c6 ids m.es⟩/\(Z.eo c6 ids).B s g=Z.B i.1 i.2/\(Z.eo c6 ids).cap s g=Z.cap i.1 i.2 /\
   ((c6.contains s=true/\i=(s,g))\/(c6.contains s=false/\c6.contains i.1=false/\g=0/\(i,s)∈ids)):=by
  intro s g o l;obtain n|⟨n,rfl,i,hi⟩:=r.all s g o l
  .have k:=r.tC (g:=g) n;rw[l]at k;exact⟨(s,g),o,k.symm,by rw[(r.c6 s n).2 g o k.symm],by simp only[Cz.eo,n,cH],by simp only[Cz.eo,n,cH],.inl ⟨n,rfl⟩⟩
  .obtain⟨F,u,m,k,M⟩:=r.live i s hi;rw[l]at M;cases M;exact⟨i,m,k,rfl,by simp only[Cz.eo,n,gP,fQ,cH,B0 r.new hi],by simp only[Cz.eo,n,gP,fQ,B0 r.new hi],.inr ⟨n,u,rfl,hi⟩⟩
 refine⟨λs g o l=>?_,λs g s' g' o o' b l J j z=>?_,h.mem,λs g o b l j=>?_,λs g o b l j=>?_,h.m0,h.eM,h.keep⟩
 .obtain⟨i,m,k,rfl,p,E,_⟩:=f l;obtain⟨k1,k2,k3,k4,k5⟩:=h.bT i.1 i.2 m k;refine⟨k1,λe R=>?_,λc O=>?_,λj=>?_,λb j=>?_⟩
  .simp only[tV,cA]at R;obtain⟨W,I,rfl⟩:=R;rw[ZQ];exact k2 W I
  .simp only[QF,cA]at O;obtain⟨S,H,rfl⟩:=O;rw[SL];exact k3 S H
  .rw[p]at j;simp[k4 j,fq]
  .rw[p]at j;obtain⟨cur,T,vals,A,C,X,Y,e5,e6⟩:=k5 b j;refine⟨cur,T,vals,A,?_,X,by rw[E];exact Y,by rw[E];simpa[tV]using e5,by rw[E];exact e6⟩;rw[QF,<- tV];exact aG.eo r C
 .obtain⟨i,m,k,_,p,_,U⟩:=f l;obtain⟨i',ad,G,_,D,_,V⟩:=f J;rw[p]at j;rw[D]at z;obtain⟨A,C⟩:=h.inj _ _ _ _ _ _ b k G j z;have e:i=i':=Prod.ext A C;subst e;obtain⟨F,rfl⟩|⟨F,u,rfl,m1⟩:=U<;>obtain⟨L,t⟩|⟨L,t,rfl,m2⟩:=V
  .cases t;exact⟨rfl,rfl⟩
  .simp only at t;rw[F]at t;cases t
  .subst t;simp only at u;rw[L]at u;cases u
  .exact⟨Sh r.old m1 m2,rfl⟩
 .obtain⟨i,m,k,_,p,_,_⟩:=f l;rw[p]at j;exact h.sep _ _ _ b k j
 .obtain⟨i,m,k,_,p,_,_⟩:=f l;rw[p]at j;exact h.own _ _ _ b k j
theorem Tw(f:Nat->List (Option bI))(r:List Site)(s:Nat):∀ c6:List Nat,look (c6.map (λs=>(s,f s))++r) s []=if c6.contains s=true then f s else look r s []
 | []=>by simp
 | k::l=>by
  have b:=Tw f r s l;simp[jH,look];by_cases h:k=s
  .grind
  .grind
def z80{keep:List Nat}(h:st.mX keep c6 ids=some st'):pM st st' c6 ids/\(st'.sl=keep.map λt=>(t,Ab.eo c6 ids (st.get t)))/\(JS c6 ids st.hp=true):=by
 unfold St.mX at h;split at h
 .rename_i B;simp only[jO]at B;obtain⟨⟨⟨C,D⟩,E⟩,R⟩:=B;have z:=Rc C;have f:=I5 D;rw[uL]at f;have k:∀ s,c6.contains s=true->s≠aO/\s∉ids.map (·.2)/\s∉ids.map (·.1.1)/\(st.site s).all (vT c6)=true:=λs l=>by
   grind
  have r:∀ s,(c6.contains s=true->False)->c6.contains s=false:=λs h=>by cases B:c6.contains s<;>simp_all
  obtain⟨n,m,rfl⟩:=cO h;obtain⟨J,L⟩:=RO m f.2 f.1;have b:∀ s,(⟨keep.map λt=>(t,Ab.eo c6 ids (st.get t)),c6.map (λs=>(s,st.site s))++(aB [] n).hp⟩:St).site s=if c6.contains s=true then st.site s else look (n.map (λq=>(q.1,[some q.2]))++[(aO,[none])]) s []:=λs=>Tw _ _ s c6
  refine⟨⟨z,f.2,λi p u=>?_,λp I U j=>?_,?_,λs l=>⟨by rw[b,aX l],λg o m=>wC ?_⟩⟩,rfl,E⟩
  .obtain⟨o,G,A⟩:=J i p u;have H:c6.contains p=false:=r p λl=>(k p l).2.1 (cA.2 ⟨_,u,rfl⟩);have O:c6.contains i.1=false:=r i.1 λl=>(k i.1 l).2.2.1 (cA.2 ⟨_,u,rfl⟩);exact⟨H,O,o,G,by simp only[St.obj,b,H,A];rfl⟩
  .cases l:c6.contains p with
   | true=>exact .inl rfl
   | false =>
   refine .inr ⟨rfl,?_⟩;simp only[St.obj,b,l,gP,fQ]at j;by_cases u:p∈ids.map (·.2)
   .obtain⟨⟨i,s1⟩,M,rfl⟩:=cA.1 u;obtain⟨o,G,A⟩:=J i s1 M;refine⟨?_,i,M⟩;rw[A]at j;cases I with
    | zero=>rfl
    | succ _=>simp at j
   .exfalso;rw[L p u]at j;split at j
    .cases I<;>simp at j
    .simp at j
  .have S:c6.contains aO=false:=r aO λl=>(k aO l).1 rfl;have:=L aO f.1;simp only[St.obj,b,S,gP,fQ,this];exact⟨by simp,rfl⟩
  .have:=(k s l).2.2.2;rw[k8]at this;unfold St.obj at m;cases F:(st.site s)[g]? with
   | none=>rw[F]at m;cases m
   | some x =>
    rw[F]at m;simp only[xW]at m;subst m;exact this _ (wM F)
 .cases h
theorem L9(f:Nat->AV)(t:Nat):∀ (keep:List Nat),look (keep.map λt=>(t,f t)) t AV.undef=f t\/look (keep.map λt=>(t,f t)) t AV.undef=.undef
 | []=>.inr rfl
 | k::r=>by
  simp[jH,look];split
  .grind
  .exact L9 f t r
theorem yfl(m:pM st st' c6 ids)(hp:JS c6 ids st.hp=true):cY Z st (Z.eo c6 ids) st':=by
 have f:∀ s,fU<=s->s<999999->st.site s=[]\/c6.contains s=true\/((st.site s).length<=1/\c6.contains s=false/\∃ o,st.obj s 0=some o/\st'.obj s 0=some ⟨o.sz,fq c6 ids o.es⟩/\ET ids s=some (s,0)):=by
  intro s a b;obtain h|⟨q,u,rfl,z⟩:=BR (d:=([]:List (Option bI))) (l:=st.hp) (s:=s)
  .exact .inl h
  .have:=k8.1 hp q u;simp only[Dc,jO,decide_eq_true_eq]at this;obtain((h|h)|h)|⟨h,t⟩:=this
   .omega
   .omega
   .grind
   .rw[E3]at h;obtain⟨n,_,o,i,j⟩:=m.live _ _ h;exact .inr (.inr ⟨by show(look st.hp q.1 []).length<=1;rw[z];exact t,n,o,i,j,B0 m.new h⟩)
 refine⟨λs a b=>?_,λs g a b A p=>?_,λs g o a b k=>?_⟩
 .obtain h|h|⟨h,_,o,i,j,_⟩:=f s a b
  .grind
  .rw[(m.c6 s h).1];exact dE _
  .have:=nQ j;omega
 .obtain h|h|⟨h,_,o,i,j,_⟩:=f s a b
  .simp_all
  .rw[m.tC h];exact p
  .obtain rfl:g=0:=by omega
   rw[i]at p;cases p
 .obtain h|h|⟨h,n,B,i,j,r⟩:=f s a b
  .have:=nQ k;rw[h]at this;simp at this
  .exact .inr ⟨o,by rw[m.tC h];exact k,rfl,rfl,by simp only[Cz.eo,h,cH],by simp only[Cz.eo,h,cH]⟩
  .have:=nQ k;obtain rfl:g=0:=by omega
   rw[i]at k;cases k;exact .inr ⟨_,j,rfl,by simp[tV],by simp only[Cz.eo,r,n,gP,fQ,cH],by simp only[Cz.eo,r,n,gP,fQ]⟩
theorem aA.UK{keep:List Nat}(h:st.mX keep c6 ids=some st'):aA st st':=by
 intro K Z w a hs;obtain⟨f,i,b⟩:=z80 h;refine⟨Z.eo c6 ids,⟨λt=>?_,hs.defers,hs.size,hs.heap.eo f⟩,yfl f b⟩;have:st'.get t=look (keep.map λt=>(t,Ab.eo c6 ids (st.get t))) t .undef:=by rw[<- i];rfl
 rw[this];obtain h|h:=L9 (λt=>Ab.eo c6 ids (st.get t)) t keep
 .rw[h];exact(hs.aY t).eo f
 .rw[h];exact .undef _
def aA.of{keep:List Nat}(h:st.yI keep ids=some st'):aA st st':=aA.UK h
end
end Go.Ab
namespace Go.Ab
def St.vQ(st:St)(t:Nat):Option St :=
 match bH st bF (st.get t)with
 | some p=>some ((aI st (aS st bF (st.get t))).put (some t) (.p p))
 | none=>none
def St.mf(st:St)(t s sz:Nat):Option St :=
 match st.get t with
 | .nil=>if 0<sz then some ((st.alloc s ⟨sz,[]⟩).put (some t) (.own s (st.site s).length 0 0))else none
 | _=>none
def TW(e:AV)(b i:Nat)(r:AV):Option AV :=
 if b=1 then(match e with | .nil=>some r|_=>none)
 else match e.cells[i]? with
  | some .nil=>some (.agg (e.cells.set i r))
  | _=>none
def St.s6(st:St)(s0 g0 i s sz:Nat):Option St :=
 match st.obj s0 g0 with
 | some o=>match o.es with
  | [e]=>if 0<sz/\s≠s0 then(match TW e o.sz i (.own s (st.site s).length 0 0)with
   | some b=>some ((st.alloc s ⟨sz,[]⟩).setObj s0 g0 ⟨o.sz,[b]⟩)
   | none=>none)else none
  | _=>none
 | none=>none
section
variable {P:Program} {K:Ctx} {Z Z':Cz} {st st' st1 st2:St} {w w':World} {a:Act} {N:Nat}
def Keep.refl(w:World)(X:Nat->Prop):Keep w w X:=⟨rfl,rfl,rfl,dE _,dE _,λ_ _ _=>rfl⟩
theorem aA.freeze{t:Nat}(h:st.vQ t=some st'):aA st st':=by
 intro K Z w a hs;unfold St.vQ at h;split at h
 .rename_i p hp;cases h;generalize j:aS st bF (st.get t)=ids;have A:∀ b o,Z.M b=some o->Mx Z st w ids b=some o:=λb o f=>mM f;have hz:cP Z st { Z with M:=Mx Z st w ids } (aI st ids):=(cP.aI ids st).trans (cP.j3 A);have C:bG K { Z with M:=Mx Z st w ids } (aI st ids) w:=by
   refine(bG.aI ids hs.heap).grow (Keep.refl w _) _ A (λb o f=>?_) (λb o f=>?_) (λs g o b D f=>?_)
   .obtain h|⟨_,h,_⟩:=rM f
    .exact hs.heap.mem b o h
    .exact h
   .obtain h|⟨_,_,s,g,z,_,l,m⟩:=rM f
    .exact .inl h
    .exact .inr (hs.heap.own s g z b l m)
   .obtain⟨k,n⟩:=EG ids st D;cases hm:Mx Z st w ids b with
    | none=>rfl
    | some y =>
     exfalso;obtain h|⟨_,_,s',g',z,B,l,m⟩:=rM hm
     .rw[hs.heap.sep s g o b k f]at h;cases h
     .obtain⟨rfl,rfl⟩:=hs.heap.inj s g s' g' o z b k l f m;exact n B
  have r:PRep (Mx Z st w ids) p (a.tmps.getD t Go.undef):=BN hs.heap ids bF _ _ _ (hs.aY t) hp (λi hi=>by rw[<- j];exact hi);refine⟨{ Z with M:=Mx Z st w ids },⟨λu=>?_,hs.defers,hs.size,C.hJ (λi=>pT _ _ _ i)⟩,.dW (hz.trans (sC (λi=>pT _ _ _ i) _))⟩;rw[xM];split
  .rename_i hu;cases hu;exact .p _ _ r
  .rw[AB (A9 ids st)];exact aQ.mono (sC (λi=>pT _ _ _ i) _) (aQ.mono hz (hs.aY u))
 .cases h
theorem aA.Bp{t s sz:Nat}(h:st.mf t s sz=some st'):aA st st':=by
 intro K Z w a hs;unfold St.mf at h;split at h
 .rename_i hn;split at h
  .rename_i hp;cases h;have b:=hs.heap.iQ s sz hp;have hz:=cP.alloc Z st s ⟨sz,[]⟩ none 0;have f:a.tmps.getD t Go.undef=.slice none 0 0:=by have:=hs.aY t;rw[hn]at this;generalize a.tmps.getD t Go.undef=x at this ⊢;cases this;rfl
   refine⟨_,⟨λu=>?_,hs.defers,hs.size,b.hJ (λi=>pT _ _ _ i)⟩,.dW (hz.trans (sC (λi=>pT _ _ _ i) _))⟩;rw[xM];refine aQ.mono (sC (s:=st.alloc s ⟨sz,[]⟩) (λi=>pT _ _ _ i) _) ?_;split
   .rename_i hu;cases hu;rw[f];exact .d' s _ ⟨sz,[]⟩ (by rw[lD,aX ⟨rfl,rfl⟩]) (by simp[Cz.bR])
   .exact aQ.mono hz (hs.aY u)
  .cases h
 .cases h
def bG.same(h:bG K Z st w){s g:Nat}{o:bI}(k:st.obj s g=some o){es:List AV}(hl:es.length=o.es.length)(F:∀ e∈es,e.sz=o.sz)(h3:∀ c∈es.flatMap AV.cells,c.one=true)
  (G:∀ vals,aG Z st (o.es.flatMap AV.cells) vals->aG Z st (es.flatMap AV.cells) vals):bG K Z (st.setObj s g ⟨o.sz,es⟩) w:=by
 have n:=nQ k;have hz:=cP.setObj Z st s g o ⟨o.sz,es⟩ k rfl hl;have old:∀ {s' g':Nat} {o':bI},(st.setObj s g ⟨o.sz,es⟩).obj s' g'=some o'->∃ M,st.obj s' g'=some M:=by
  intro s' g' o' f;rw[vF _ _ _ _ _ _ n]at f;split at f
  .rename_i m;obtain⟨rfl,rfl⟩:=m;exact⟨o,k⟩
  .exact⟨o',f⟩
 refine⟨λs' g' o' f=>?_,λs' g' O E o' L b a1 p i r=>?_,h.mem,λs' g' o' b a1 i=>?_,λs' g' o' b a1 i=>?_,h.m0,h.eM,h.keep⟩
 .rw[vF _ _ _ _ _ _ n]at f;split at f
  .rename_i m;obtain⟨rfl,rfl⟩:=m;cases f;obtain⟨H,R,S,I,J⟩:=h.bT s' g' o k;refine⟨H,F,h3,λl=>List.eq_nil_of_length_eq_zero (by rw[hl,I l];rfl),λb l=>?_⟩;obtain⟨cur,T,vals,u,z,A,B,C,D⟩:=J b l;exact⟨cur,T,vals,u,aG.mono hz (G vals z),A,B,by simpa[hl]using C,D⟩
  .exact(h.bT s' g' o' f).later hz rfl rfl (λ_ _=>rfl)
 .obtain⟨o1,j⟩:=old a1;obtain⟨U,t⟩:=old p;exact h.inj _ _ _ _ _ _ b j t i r
 .obtain⟨o1,j⟩:=old a1;exact h.sep _ _ _ b j i
 .obtain⟨o1,j⟩:=old a1;exact h.own _ _ _ b j i
theorem aG.set{vs:List AV}{xs:List Value}(i:Nat){r:AV}(h:aG Z st vs xs)(b:∀ x,xs[i]?=some x->aQ Z st r x):aG Z st (vs.set i r) xs:=by
 induction i generalizing vs xs with
 | zero =>
  cases h with
  | nil=>exact .nil
  | cons v x vs xs h hs=>exact .cons _ _ _ _ (b x rfl) hs
 | succ i j =>
  cases h with
  | nil=>exact .nil
  | cons v x vs xs h hs=>exact .cons _ _ _ _ h (j hs (λy f=>b y f))
theorem aA.b5{s0 g0 i s sz:Nat}(h:st.s6 s0 g0 i s sz=some st'):aA st st':=by
 intro K Z w a hs;unfold St.s6 at h;split at h
 .rename_i o L;split at h
  .rename_i e f;split at h
   .rename_i t;obtain⟨hp,G⟩:=t;split at h
    .rename_i z b;cases h;have J:=hs.heap.iQ s sz hp;have hz:=cP.alloc Z st s ⟨sz,[]⟩ none 0;generalize V:Z.bR s (st.site s).length none 0=r at J hz;have l:aQ r (st.alloc s ⟨sz,[]⟩) (.own s (st.site s).length 0 0) (.slice none 0 0):=.d' s _ ⟨sz,[]⟩ (by rw[lD,aX ⟨rfl,rfl⟩]) (by rw[<- V];simp[Cz.bR]);have C:(st.alloc s ⟨sz,[]⟩).obj s0 g0=some o:=by rw[lD,bD (by rintro⟨rfl,_⟩;exact G rfl)];exact L
     have F:=hs.heap.bT s0 g0 o L;have A:=F.iI e (by simp[f]);have n:∀ c∈e.cells,c.one=true:=λc t=>F.one c (by simp[f,t]);have k:∀ x,aQ r (st.alloc s ⟨sz,[]⟩) .nil x->x=.slice none 0 0:=λx D=>by cases D;rfl
     have m:z.sz=o.sz/\(∀ c∈z.cells,c.one=true)/\∀ vals,aG r (st.alloc s ⟨sz,[]⟩) e.cells vals->aG r (st.alloc s ⟨sz,[]⟩) z.cells vals:=by
      unfold TW at b;split at b
      .rename_i I;split at b
       .cases b;refine⟨by rw[I];rfl,by simp[AV.cells,AV.one],λvals j=>?_⟩;simp only[AV.cells]at j ⊢;cases j with
        | cons _ x _ _ D H=>cases H;have:=k x D;subst this;exact .cons _ _ _ _ l .nil
       .cases b
      .rename_i I;split at b
       .rename_i hi;cases b;have M:=F.pos;have B:e.cells.length=o.sz:=by rw[AV.bO (by omega)];exact A
        refine⟨?_,λc t=>?_,λvals j=>?_⟩
        .simp only[AV.sz,List.length_set,B];rw[bD (by omega)]
        .simp only[AV.cells]at t;obtain h|h:=E5 t
         .exact n c h
         .rw[h];rfl
        .simp only[AV.cells]at j ⊢;refine j.set i (λx D=>?_);obtain⟨y,O,H⟩:=j.get i .nil hi;rw[D]at O;cases O;rw[k x H];exact l
       .cases b
     obtain⟨R,S,U⟩:=m;have p:=J.same C (es:=[z]) (by rw[f];rfl) (by simpa using R) (by simpa using S) (λvals j=>by rw[f]at j;simpa using U vals (by simpa using j));have E:=cP.setObj r (st.alloc s ⟨sz,[]⟩) s0 g0 o ⟨o.sz,[z]⟩ C rfl (by rw[f];rfl);exact⟨r,⟨λu=>aQ.mono (hz.trans E) (hs.aY u),hs.defers,hs.size,p⟩,.dW (hz.trans E)⟩
    .cases h
   .cases h
  .cases h
 .cases h
end
def DQ:Nat->List PV->List (Nat × AV)
 | _,[]=>[]
 | i,v::r=>(i,.p v)::DQ (i+1) r
def vy(args:List PV):St:=⟨DQ 0 args,[]⟩
def zO(P:Program):List ResultVar->Option (List (Nat × Option Nat))
 | []=>some []
 | .tmp t::r=>(zO P r).map ((t,none) :: ·)
 | .cell a t::r=>if tok P t (ew P t) (jI P t)=true then(zO P r).map ((a,some (ew P t)) :: ·)else none
def BJ(st:St)(t:Nat)(c:Option Nat):Option AV :=
 match c with
 | none=>some (st.get t)
 | some h=>match st.get t with
  | .ptr s g f b=>match st.obj s g with
   | some o=>match o.es[f]? with
    | some e=>if b=0/\h=o.sz then some e else none
    | none=>none
   | none=>none
  | _=>none
def oF(st:St):List (Nat × Option Nat)->Option (List AV)
 | []=>some []
 | (t,c)::r=>match BJ st t c,oF st r with
  | some v,some l=>some (v::l)
  | _,_=>none
def dD:List AV->AV
 | [v]=>v
 | vs=>.bM vs
structure Cv where
 N:Nat
 np:Nat
 body:AC
 res:List (Nat × Option Nat)
def aP(P:Program)(f:FuncId):Option Cv :=
 match P.funcs[f]? with
 | some h=>if h.name ≠ "runtime.NumGoroutine" then match h.body with
  | some c=>match comp P h.ntmps c,zO P h.results.toList with
   | some b,some r=>some ⟨h.ntmps,h.params.size+h.nfree,b,r⟩
   | _,_=>none
  | none=>none
  else none
 | none=>none
inductive pL (st:St):AV->RV->Prop
 | pure (v:AV) (p:PV):bH st bF v=some p->pL st v (.pure p)
 | fresh (s g len:Nat) (o:bI) (es:List PV):st.obj s g=some o->len=o.es.length->o.es=es.map .p->pL st (.own s g 0 len) (.fresh o.sz es)
 | nil (sz:Nat):pL st .nil (.fresh sz [])
section
variable {P:Program} {K:Ctx} {Z Z':Cz} {st st' st1 st2:St} {w w':World} {a:Act} {N:Nat} {args:List PV}
theorem PD:∀ (args:List PV) (i t:Nat),look (DQ i args) t AV.undef=if t<i then .undef else match args[t - i]? with|some v=>.p v|none=>.undef
 | [],i,t=>by simp[DQ,look]
 | v::r,i,t=>by
  simp only[DQ,look];split
  .rename_i h;subst h;simp
  .rename_i h;rw[PD r (i+1) t];by_cases b:t<i
   .rw[aX (by omega),aX b]
   .rw[bD (by omega),bD b];have:t - i=(t - (i+1))+1:=by omega
    rw[this];rfl
theorem LH{M:Nat->Option Obj}{vals:List Value}(r:∀ b o,M b=some o->w.heap[b]?=some o)(m:PReps M args vals)(hn:args.length<=N) :
  aN ⟨w,M,λ_=>False,N⟩ ⟨M,λ_ _=>none,λ_ _=>0⟩ (vy args) w { tmps:=vals.toArray++Array.replicate (N - vals.toArray.size) Go.undef,defers:=[] }:=by
 have z:=m.length;have i:∀ s g,(vy args).obj s g=none:=λs g=>rfl;refine⟨λt=>?_,rfl,by simp;omega,⟨λs g o f=>(by rw[i]at f;cases f),λs g _ _ o _ b f=>(by rw[i]at f;cases f),r,λs g o b f=>(by rw[i]at f;cases f),λs g o b f=>(by rw[i]at f;cases f),λ_ _ h=>h,λ_ _ h=>.inl h,Keep.refl w _⟩⟩;have j:(vy args).get t=match args[t]? with|some v=>.p v|none=>.undef:=by have:=PD args 0 t;simpa[St.get,vy]using this
 rw[j];cases u:args[t]? with
 | none=>exact .undef _
 | some v =>
  obtain⟨x,l,n⟩:=m.get t v u;have k:=(List.getElem?_eq_some_iff.1 l).1;have:(vals.toArray++Array.replicate (N - vals.toArray.size) Go.undef).getD t Go.undef=x:=by simp[Array.getElem?_append,k];have:=(List.getElem?_eq_some_iff.1 l).2;simpa using this
  rw[this];exact .p _ _ n
theorem ycp{t:TypeId}{s g r:Nat}{o:bI}{e:AV}{x:Value}(M:tok P t (ew P t) (jI P t)=true)(W:bG K Z st w)(X:aQ Z st (.ptr s g r 0) x)(L:st.obj s g=some o)(f:o.es[r]?=some e)(h:ew P t=o.sz) :
  ∃ y,(do loadVar t (<- asAddr x):Sem Value).run P w=.ok y w/\aQ Z st e y:=by
 obtain⟨b,U,rfl⟩:=BV X L;obtain⟨_,_,_,_,_,_,C,F⟩:=F7 M;have j:=W.bT s g o L;obtain⟨B,T,u,Y,k2,k3,k4,k5,k6⟩:=j.bX b U;have m:∀ e∈o.es,(AV.cells e).length=o.sz:=λe J=>by rw[AV.bO (by rw[j.iI e J];exact j.pos),j.iI e J]
 have p:=FV AV.cells o.sz o.es r e m f;have E:=Kw AV.cells o.sz o.es r e m f;have l:e∈o.es:=List.mem_of_getElem? f;have n:∀ c∈e.cells,c.one=true:=λc V=>j.one c (List.mem_flatMap.2 ⟨e,l,V⟩);have D:∀ (i:Nat) (v:Value),u[i]?=some v->B[0+i]?=some v:=by simpa using k3
 obtain⟨xs,I,h2,z,S⟩:=CH (P:=P) (Z:=Z) (st:=st) (k:=r*o.sz) (o:=0) M Y k2 D (by rw[h];exact E);rw[h,p]at I;obtain⟨r1,r2⟩:=MY ((j.iI e l).trans h.symm) C F n I;cases A:jI P t with
 | true =>
  have z:=z A;simp only[sG]at z;refine⟨_,?_,r1 A⟩;simp only[asAddr,mW,oJ,qF,uO,z]
 | false =>
  obtain⟨x1,O,G⟩:=S A;obtain⟨x2,H,R⟩:=r2 A;rw[O]at H;cases H;simp only[sG]at G;refine⟨_,?_,R⟩;simp only[asAddr,mW,oJ,qF,uO,G]
theorem D7(hs:aN K Z st w a):∀ {rs:List ResultVar} {cs:List (Nat × Option Nat)} {vs:List AV},zO P rs=some cs->oF st cs=some vs ->
  ∃ xs,(rs.mapM (m:=Sem) λ| .tmp t=>pure (a.tmps.getD t Go.undef) | .cell p t=>do loadVar t (<- asAddr (a.tmps.getD p Go.undef))).run P w=.ok xs w/\aG Z st vs xs
 | [],cs,vs,f,b=>by
  simp only[zO,cD]at f;subst f;simp only[oF,cD]at b;subst b;exact⟨[],by simp,.nil⟩
 | r::rs,cs,vs,f,b=>by
  have step:∃ (t:Nat) (c:Option Nat) (h:List (Nat × Option Nat)),cs=(t,c)::h/\zO P rs=some h/\∀ v,BJ st t c=some v ->
    ∃ y,((λ| .tmp t=>pure (a.tmps.getD t Go.undef) | .cell p t=>do loadVar t (<- asAddr (a.tmps.getD p Go.undef)):ResultVar->Sem Value) r).run P w=.ok y w/\aQ Z st v y:=by
   cases r with
   | tmp t =>
    simp only[zO]at f;obtain⟨l,j,rfl⟩:=cO f;exact⟨t,none,l,rfl,j,λv b=>by simp only[BJ,cD]at b;subst b;exact⟨_,by simp,hs.aY t⟩⟩
   | cell p t =>
    simp only[zO]at f;split at f
    .rename_i I;obtain⟨l,j,rfl⟩:=cO f;refine⟨p,some (ew P t),l,rfl,j,λv b=>?_⟩;simp only[BJ]at b;split at b
     .rename_i s g M J k;split at b
      .rename_i o H;split at b
       .rename_i e F;split at b
        .rename_i i;obtain⟨rfl,n⟩:=i;cases b;have z:=hs.aY p;rw[k]at z;exact ycp I hs.heap z H F n
        .cases b
       .cases b
      .cases b
     .cases b
    .cases f
  obtain⟨t,c,h,rfl,j,E⟩:=step;simp only[oF]at b;split at b
  .rename_i v l u G;cases b;obtain⟨y,A,B⟩:=E v u;obtain⟨L,C,D⟩:=D7 hs j G;refine⟨y::L,?_,.cons _ _ _ _ B D⟩;simp only[Cg,mW,A,qF,C,oJ]
  .cases b
theorem aG.dD{vs:List AV}{xs:List Value}(h:aG Z st vs xs):aQ Z st (dD vs) (if h:xs.toArray.size=1 then xs.toArray[0]else .tuple xs.toArray):=by
 cases h with
 | nil=>exact .bM _ _ .nil
 | cons v x vs xs h hs =>
  cases hs with
  | nil=>exact h
  | cons u y us b k ks=>simp only[Ab.dD];rw[dif_neg (by simp)];exact .bM _ _ (.cons _ _ _ _ h (.cons _ _ _ _ k ks))
theorem LN{M:Nat->Option Obj}{v:AV}{x:Value}{z:RV}(k:bG ⟨w,M,λ_=>False,N⟩ Z' st' w')(F:aQ Z' st' v x)(u:pL st' v z) :
  ∃ C,(∀ b o,M b=some o->C b=some o)/\(∀ b o,C b=some o->w'.heap[b]?=some o)/\(∀ b o,C b=some o->M b=some o\/w.heap.size<=b)/\Keep w w' (λ_=>False)/\sq C w w' z x:=by
 have j:∀ b o,Z'.M b=some o->M b=some o\/w.heap.size<=b:=λb o f=>by
  obtain h|h|h:=k.eM b o f
  .exact .inl h
  .exact h.elim
  .exact .inr h
 have n:∀ s g o b,st'.obj s g=some o->Z'.B s g=some b->w.heap.size<=b:=λs g o b m f=>by
  obtain h|h:=k.own s g o b m f
  .exact h.elim
  .exact h
 cases u with
 | pure _ p S =>
  refine⟨Mx Z' st' w' (aS st' bF v),λb o f=>mM (k.m0 b o f),λb o f=>?_,λb o f=>?_,k.keep,?_⟩
  .obtain h|⟨_,h,_⟩:=rM f
   .exact k.mem b o h
   .exact h
  .obtain h|⟨_,_,s,g,ob,_,q2,q3⟩:=rM f
   .exact j b o h
   .exact .inr (n s g ob b q2 q3)
  .exact BN k _ bF _ _ _ F S (λi O=>O)
 | fresh s g af o H m R r =>
  refine⟨Z'.M,λb o f=>k.m0 b o f,k.mem,j,k.keep,?_⟩;have E:=k.bT s g o m;have t:o.es.length=H.length:=by rw[r];simp
  cases F with
  | d' _ _ o' l f =>
   rw[m]at l;cases l;have:=E.x5 f;refine .inl ⟨q9 (by rw[<- t,this];rfl),rfl⟩
  | own _ _ _ _ o' b ad c l f I h2 h3 h4 =>
   rw[m]at l;cases l;obtain⟨rfl,rfl⟩:=I rfl;obtain⟨D,T,A,U,G,V,W,X,Y⟩:=E.bX b f;refine .inr ⟨b,Z'.cap s g,D,T,A,by rw[R,t],n s g o b m f,k.sep s g o b m f,U,?_,V,W,by rw[<- t];exact X,Y,λc J=>?_⟩
   .rw[r,qU]at G;exact G.pq
   .have:=E.one (.p c) (by rw[r,qU];exact cA.2 ⟨c,J,rfl⟩);exact this
  | eO _ _ _ _ _ _ _ L=>exact(uH m L).elim
 | nil sz =>
  refine⟨Z'.M,λb o f=>k.m0 b o f,k.mem,j,k.keep,.inl ⟨rfl,?_⟩⟩;cases F;rfl
theorem Sp.gG{f:FuncId}{C:Cv}{ex:Exit}{vs:List AV}{res:RV}(i:aP P f=some C)(hn:args.length<=C.N)(m:cU P C.N C.body (vy args) ex st')(n:ex=.ret\/ex=.normal)
  (p:oF st' C.res=some vs) (l:pL st' (dD vs) res):Sp P f args res:=by
 unfold aP at i;split at i
 .rename_i fn u;split at i
  .rename_i k;split at i
   .rename_i c t;split at i
    .rename_i O rs B D;cases i;refine⟨⟨fn,u,by rw[t];rfl,k⟩,λw M vals E F=>?_⟩;refine calls_of_wp u t ?_;refine m _ B ⟨w,M,λ_=>False,fn.ntmps⟩ _ w _ _ rfl (LH E F hn) (λZ' w' s hs _=>?_)
     have j:s.defers=[]/\∃ v,(results fn s.tmps).run P w'=.ok v w'/\∃ x M',Ending.returned v=.returned x/\(∀ b o,M b=some o->M' b=some o)/\(∀ b o,M' b=some o->w'.heap[b]?=some o) /\
       (∀ b o,M' b=some o->M b=some o\/w.heap.size<=b)/\Keep w w' (λ_=>False)/\sq M' w w' res x:=by
      obtain⟨xs,z,A⟩:=D7 hs D p;obtain⟨M',G,H,I,J,L⟩:=LN hs.heap A.dD l;refine⟨hs.defers,_,?_,_,M',rfl,G,H,I,J,L⟩;unfold results;rw[EY];simp only[mW,map_eq_pure_bind,oJ];exact congrArg (λr=>(Result.andThen r λa w'=>Result.ok a.toArray w').andThen λ(a:Array Value) w'=>Result.ok (if h:a.size=1 then a[0]else Value.tuple a) w') z
     obtain rfl|rfl:=n
     .exact j
     .exact j
    .cases i
   .cases i
  .cases i
 .cases i
end
def DY(i:Nat)(r:AV):Nat->List PV->List (Nat × AV)
 | _,[]=>[]
 | n,v::l=>(n,if n=i then r else .p v)::DY i r (n+1) l
def wR(p:PV):AV :=
 match p with
 | .ref _=>.ptr bC 0 0 0
 | .sl b=>.own bC 0 0 b.length
 | _=>.undef
def mF(p:PV):List PV :=
 match p with
 | .ref e=>[e]
 | .sl b=>b
 | _=>[]
def xN(args:List PV)(i sz:Nat)(p:PV):St:=⟨DY i (wR p) 0 args,[(bC,[some ⟨sz,(mF p).map .p⟩])]⟩
inductive DI (st:St):AV->Nat->RV->Prop
 | pure (v:AV) (n:Nat) (p:PV):bH st bF v=some p->(bC,0)∉aS st bF v->DI st v n (.pure p)
 | same (l n:Nat):l<=n->DI st (.own bC 0 0 l) n (.same l)
section
variable {P:Program} {K:Ctx} {Z Z':Cz} {st st' st1 st2:St} {w w':World} {a:Act} {N:Nat} {args:List PV}
theorem QX{i:Nat}{r:AV}:∀ (args:List PV) (n t:Nat),look (DY i r n args) t AV.undef=if t<n then .undef else match args[t - n]? with|some v=>if t=i then r else .p v|none=>.undef
 | [],n,t=>by simp[DY,look]
 | v::l,n,t=>by
  simp only[DY,look];split
  .rename_i h;subst h;simp
  .rename_i h;rw[QX l (n+1) t];by_cases b:t<n
   .rw[aX (by omega),aX b]
   .rw[bD (by omega),bD b];have:t - n=(t - (n+1))+1:=by omega
    rw[this];rfl
theorem XE{M:Nat->Option Obj}{vals:List Value}{i sz cap:Nat}{p:PV}{b:Option Nat}{es:List PV}(hM:∀ b o,M b=some o->w.heap[b]?=some o)(ad:vals.length=args.length)(hp:args[i]?=some p)(D:∃ x,vals[i]?=some x/\DK p es b cap x)
  (ha:sr M w b cap sz es) (ho:∀ j q,j≠i->args[j]?=some q->∃ x,vals[j]?=some x/\PRep M q x) (hn:args.length<=N) :
  es=mF p/\aN ⟨w,M,λc=>b=some c,N⟩ ⟨M,λ_ _=>b,λ_ _=>cap⟩ (xN args i sz p) w { tmps:=vals.toArray++Array.replicate (N - vals.toArray.size) Go.undef,defers:=[] }:=by
 obtain⟨x,hx,R⟩:=D;obtain⟨Y,a2,a3,J,F⟩:=ha;have u:es=mF p:=by obtain⟨rfl,_⟩|⟨e,l,rfl,rfl,_,_⟩:=R<;>rfl
 have f:∀ s g o,(xN args i sz p).obj s g=some o->s=bC/\g=0/\o=⟨sz,es.map .p⟩:=by
  intro s g o h;simp only[St.obj,St.site,xN,look]at h;split at h
  .rename_i hs;cases g with
   | zero=>simp at h;subst hs;subst h;rw[u];exact⟨rfl,rfl,rfl⟩
   | succ g=>simp at h
  .simp at h
 have k:(xN args i sz p).obj bC 0=some ⟨sz,es.map .p⟩:=by simp[St.obj,St.site,xN,look,u]
 refine⟨u,λt=>?_,rfl,by simp;omega,⟨λs g o h=>?_,λs g s' g' o o' l h h' _ _=>?_,hM,λs g o l h m=>(F l m).1,λs g o l _ m=>.inl m,λ_ _ h=>h,λ_ _ h=>.inl h,Keep.refl w _⟩⟩
 .have C:(xN args i sz p).get t=match args[t]? with|some v=>if t=i then wR p else .p v|none=>.undef:=by have:=QX (i:=i) (r:=wR p) args 0 t;simpa[St.get,xN]using this
  rw[C];have n:∀ y,vals[t]?=some y->(vals.toArray++Array.replicate (N - vals.toArray.size) Go.undef).getD t Go.undef=y:=by intro y E;have G:=(List.getElem?_eq_some_iff.1 E).1;simp[Array.getElem?_append,G];simpa using (List.getElem?_eq_some_iff.1 E).2
  cases z:args[t]? with
  | none=>exact .undef _
  | some q =>
   simp only;split
   .rename_i A;subst A;rw[hp]at z;cases z;rw[n x hx];obtain⟨rfl,rfl⟩|⟨e,l,rfl,rfl,rfl,rfl⟩:=R
    .simp only[wR];cases b with
     | none =>
      have:=J rfl;subst this;exact .d' _ _ _ k rfl
     | some b =>
      obtain⟨_,B,T,L,S,U,V,W,I,X⟩:=F b rfl;exact .own _ _ 0 es.length _ b _ cap k rfl (λ_=>⟨rfl,rfl⟩) (λ_=>by simp) (by simp) I
    .simp only[wR];have:=aQ.ptr (Z:=⟨M,λ_ _=>some l,λ_ _=>cap⟩) (st:=xN args t sz (.ref e)) bC 0 0 0 _ l k rfl;simpa using this
   .rename_i A;obtain⟨y,E,H⟩:=ho t q A z;rw[n y E];exact .p _ _ H
 .obtain⟨rfl,rfl,rfl⟩:=f s g o h;refine⟨Y,λe he=>?_,λc O=>?_,λm=>?_,λl m=>?_⟩
  .obtain⟨q,z,rfl⟩:=cA.1 he;exact a2 q z
  .rw[qU]at O;obtain⟨q,z,rfl⟩:=cA.1 O;exact a3 q z
  .simp only at m;rw[J m];rfl
  .obtain⟨_,B,T,L,S,U,V,W,I,X⟩:=F l m;exact⟨B,T,L,S,by rw[qU];exact aG.lZ U,V,W,by simpa using I,X⟩
 .obtain⟨rfl,rfl,_⟩:=f s g o h;obtain⟨rfl,rfl,_⟩:=f s' g' o' h';exact⟨rfl,rfl⟩
theorem gO.gG{f:FuncId}{C:Cv}{ex:Exit}{vs:List AV}{res:RV}{i sz:Nat}{p:PV}{m:List PV}(k:aP P f=some C)(hn:args.length<=C.N)(hp:args[i]?=some p)
  (A:cU P C.N C.body (xN args i sz p) ex st') (al:ex=.ret\/ex=.normal) (av:oF st' C.res=some vs) (j:st'.obj bC 0=some ⟨sz,m.map .p⟩) (t:m.length=(mF p).length) (z:DI st' (dD vs) (mF p).length res) :
  gO P f args i sz m res:=by
 unfold aP at k;split at k
 .rename_i fn hf;split at k
  .rename_i L;split at k
   .rename_i c E;split at k
    .rename_i bd rs O V;cases k;refine⟨⟨fn,hf,by rw[E];rfl,L⟩,λw M vals b cap es hM au U hi ha ho=>?_⟩;obtain⟨ag,J⟩:=XE hM au hp (U p hp) ha ho hn;subst ag;refine calls_of_wp hf E ?_;refine A _ O ⟨w,M,λc=>b=some c,fn.ntmps⟩ _ w _ _ rfl J (λZ' w' a' hs aq=>?_)
     have I:a'.defers=[]/\∃ v,(results fn a'.tmps).run P w'=.ok v w'/\∃ x M',Ending.returned v=.returned x/\(∀ b o,M b=some o->M' b=some o)/\(∀ b o,M' b=some o->w'.heap[b]?=some o) /\
       (∀ b o,M' b=some o->M b=some o\/w.heap.size<=b)/\Keep w w' (λc=>b=some c)/\m.length=(mF p).length/\sr M' w' b cap sz m/\DJ M' w w' b cap (mF p).length res x:=by
      obtain⟨xs,e1,e2⟩:=D7 hs V av;have W:=e2.dD;generalize aw:(if h:xs.toArray.size=1 then xs.toArray[0]else .tuple xs.toArray)=x at W;have A:(results fn a'.tmps).run P w'=.ok x w':=by rw[<- aw];unfold results;rw[EY];simp only[mW,map_eq_pure_bind,oJ];exact congrArg (λr=>(Result.andThen r λa w'=>Result.ok a.toArray w').andThen λ(a:Array Value) w'=>Result.ok (if h:a.size=1 then a[0]else Value.tuple a) w') e1
      obtain⟨G,hC⟩:Z'.B bC 0=b/\Z'.cap bC 0=cap:=by
       obtain h|⟨_,_,_,_,O,V⟩:=aq.live bC 0 ⟨sz,(mF p).map .p⟩ (by decide) (by decide) (by simp[St.obj,St.site,xN,look])
       .rw[j]at h;cases h
       .exact⟨O,V⟩
      have R:=hs.heap.bT _ _ _ j;have u:∀ c o,Z'.M c=some o->M c=some o\/w.heap.size<=c:=λc o k=>by
       obtain h|h|h:=hs.heap.eM c o k
       .exact .inl h
       .rw[hs.heap.sep bC 0 _ c j (G.trans h)]at k;cases k
       .exact .inr h
      have H:∀ M',(∀ c o,Z'.M c=some o->M' c=some o)->(∀ c,b=some c->M' c=none)->sr M' w' b cap sz m:=by
       intro M' ao ap;refine⟨R.pos,λe he=>R.iI (.p e) (cA.2 ⟨e,he,rfl⟩),λq hq=>?_,λE=>?_,λb' F=>?_⟩
       .have:=R.one (.p q) (by rw[qU];exact cA.2 ⟨q,hq,rfl⟩);exact this
       .have:=R.x5 (G.trans E);simpa using this
       .obtain⟨cur,T,cv,k1,k2,k3,k4,k5,k6⟩:=R.bX b' (G.trans F);rw[qU]at k2;rw[hC]at k4 k5 k6;exact⟨ap b' F,cur,T,cv,k1,k2.pq.mono ao,k3,k4,by simpa using k5,k6⟩
      have D:∀ c,b=some c->Z'.M c=none:=λc k=>hs.heap.sep bC 0 _ c j (G.trans k);generalize dD vs=v at W z;generalize bb:(mF p).length=n at z t;refine⟨hs.defers,_,A,?_⟩;cases z with
      | pure _ _ q hq S =>
       refine⟨x,Mx Z' st' w' (aS st' bF v),rfl,λb o E=>mM (hs.heap.m0 b o E),λb o E=>?_,λb o E=>?_,hs.heap.keep,by rw[t],H _ (λc o k=>mM k) (λc k=>?_),?_⟩
       .obtain h|⟨_,h,_⟩:=rM E
        .exact hs.heap.mem b o h
        .exact h
       .obtain h|⟨_,_,s,g,ob,m1,X,Y⟩:=rM E
        .exact u b o h
        .obtain h|h:=hs.heap.own s g ob b X Y
         .obtain⟨rfl,rfl⟩:=hs.heap.inj s g bC 0 ob _ b X j Y (G.trans h);exact absurd m1 S
         .exact .inr h
       .cases hm:Mx Z' st' w' (aS st' bF v) c with
        | none=>rfl
        | some y =>
         exfalso;obtain h|⟨_,_,s,g,ob,m1,X,Y⟩:=rM hm
         .rw[D c k]at h;cases h
         .obtain⟨rfl,rfl⟩:=hs.heap.inj s g bC 0 ob _ c X j Y (G.trans k);exact S m1
       .exact BN hs.heap _ bF _ _ _ W hq (λi hi=>hi)
      | same l _ hl =>
       refine⟨x,Z'.M,rfl,hs.heap.m0,hs.heap.mem,u,hs.heap.keep,by rw[t],H _ (λ_ _ h=>h) D,hl,?_⟩;cases W with
       | d' _ _ o ho af=>rw[<- G,af]
       | own _ _ _ _ o b' ad c ho F O V h3 h4 =>
        obtain⟨rfl,rfl⟩:=O rfl;rw[<- G,F,hC]
       | eO _ _ _ _ _ _ _ hd=>exact(uH j hd).elim
     obtain rfl|rfl:=al
     .exact I
     .exact I
    .cases k
   .cases k
  .cases k
 .cases k
end
inductive eB:Type 1
 | ok (c:Prop) (v:AV) (s:St)
 | el {α : Type} (l:List α) (n:Nat) (f : α -> eB)
 | br (t:Bool) (a b:eB)
 | bad
def fV(K:AV->St->Prop):eB->Prop
 | .ok c v s=>c/\K v s
 | .el l n f=>∃ e,l[n]?=some e/\fV K (f e)
 | .br t a b=>(t=true->fV K a)/\(t=false->fV K b)
 | .bad=>False
def fC{α : Type}:Option α -> (α -> eB)->eB
 | some x,f=>f x
 | none,_=>.bad
def eB.and(c:Prop):eB->eB
 | .ok d v s=>.ok (c/\d) v s
 | .el l n f=>.el l n λx=>(f x).and c
 | .br t a b=>.br t (a.and c) (b.and c)
 | .bad=>.bad
def Ki:AV->eB->eB->eB
 | .p (.bool t),a,b=>.br t a b
 | _,_,_=>.bad
def pC:AV->(Nat->eB)->eB
 | .p (.int _ n),f=>(f n.toNat).and (0<=n)
 | _,_=>.bad
def CK(st:St)(o:Option bP)(n:Nat)(f:Nat->eB):eB :=
 match o with
 | some x=>pC (st.ev x) f
 | none=>f n
def Bx(k:IntKind)(a b:Int):Int:=k.wrap (BitVec.ofInt k.bits a &&& BitVec.ofInt k.bits b).toNat
def Fi(k:IntKind)(a b:Int):Int:=k.wrap (BitVec.ofInt k.bits a ||| BitVec.ofInt k.bits b).toNat
def G1(k:IntKind)(a b:Int):Int:=k.wrap (BitVec.ofInt k.bits a ^^^ BitVec.ofInt k.bits b).toNat
def yhg(k:IntKind)(a b:Int):Int:=k.wrap (BitVec.ofInt k.bits a &&& ~~~ BitVec.ofInt k.bits b).toNat
def NI(f:BinOp)(k:IntKind)(a b:Int)(st:St):eB :=
 match f with
 | .add=>.ok True (.p (.int k (k.wrap (a+b)))) st
 | .sub=>.ok True (.p (.int k (k.wrap (a - b)))) st
 | .mul=>.ok True (.p (.int k (k.wrap (a*b)))) st
 | .quo=>.ok (b≠0) (.p (.int k (k.wrap (a.tdiv b)))) st
 | .rem=>.ok (b≠0) (.p (.int k (a.tmod b))) st
 | .and=>.ok True (.p (.int k (Bx k a b))) st
 | .or=>.ok True (.p (.int k (Fi k a b))) st
 | .xor=>.ok True (.p (.int k (G1 k a b))) st
 | .andNot=>.ok True (.p (.int k (yhg k a b))) st
 | .eql=>.ok True (.p (.bool (decide (a=b)))) st
 | .neq=>.ok True (.p (.bool (!decide (a=b)))) st
 | .lss=>.ok True (.p (.bool (decide (a<b)))) st
 | .leq=>.ok True (.p (.bool (decide (a<=b)))) st
 | .gtr=>.ok True (.p (.bool (decide (b<a)))) st
 | .geq=>.ok True (.p (.bool (decide (b<=a)))) st
 | .shl=>.ok (0<=b) (.p (.int k (k.wrap (a*2^Nat.min b.toNat k.bits)))) st
 | .shr=>.ok (0<=b) (.p (.int k (a / (2^Nat.min b.toNat k.bits)))) st
def JR(f:BinOp)(x y:AV)(st:St):eB :=
 match x,y with
 | .p (.int k a),.p (.int h b)=>if xO f=true\/k=h then NI f k a b st else .bad
 | _,_=>.bad
def zr(st:St)(v:AV)(f:List AV->eB):eB :=
 match v with
 | .p (.sl i)=>f (i.map .p)
 | .nil=>f []
 | .p .nl=>f []
 | .p .sle=>f []
 | .own s g h b=>fC (st.obj s g) λo=>(f ((o.es.drop h).take b)).and (h+b<=o.es.length)
 | _=>.bad
def tZ(sz:Nat)(l:List AV):Prop:=(l.all λv=>v.sz == sz)=true/\0<sz
def yL(sz:Nat)(l:List PV):Prop:=(l.all λv=>v.sz == sz)=true/\0<sz
def oc(st:St)(d:Nat):c7->eB
 | .mv x=>.ok True (st.ev x) st
 | .pick c a b=>Ki (st.ev c) (.ok True (st.ev a) st) (.ok True (st.ev b) st)
 | .alloc r zero=>.ok (zero.sz=r/\0<r) (.ptr d (st.site d).length 0 0) (st.alloc d ⟨r,[zero]⟩)
 | .box r x=>.ok ((st.ev x).sz=r/\0<r) (.ptr d (st.site d).length 0 0) (st.alloc d ⟨r,[st.ev x]⟩)
 | .build zero parts=>fC (A5 zero (parts.map λ(o,s,x)=>(o,s,st.ev x))) λG=>.ok True (eQ G) st
 | .b4 r zero n parts=>fC (A4 (List.replicate n zero.ey) r (parts.map λ(i,x)=>(i,(st.ev x).ey))) λA=>.ok (zero.sz=r/\0<r/\n*r<=16777216) (.own d (st.site d).length 0 n) (st.alloc d ⟨r,A⟩)
 | .load r F x=>match st.ev x with
  | .ptr s g C j=>fC (st.obj s g) λo=>.el o.es C λe=>if j=0/\r=o.sz then .ok True e st else fC (e.yO j r F) λv=>.ok True v st
  | .cp v z j=>if j=0/\r=z then .ok True (.p v) st else fC (v.yO j r F) λv=>.ok True (.p v) st
  | _=>.bad
 | .store r a x=>match st.ev a with
  | .ptr s g C j=>fC (st.obj s g) λo=>.el o.es C λe=>
    if j=0/\r=o.sz then .ok ((st.ev x).sz=r/\0<r) .undef (st.setObj s g ⟨o.sz,o.es.set C (st.ev x)⟩)
    else fC (e.rT j (st.ev x)) λL=>.ok ((st.ev x).sz=r/\0<r) .undef (st.setObj s g ⟨o.sz,o.es.set C L⟩)
  | _=>.bad
 | .bV x=>match st.ev x with
  | .ptr s g C j=>fC (st.obj s g) λ_=>.ok True (.ptr s g C j) st
  | .p (.fn f u)=>.ok True (.p (.fn f u)) st
  | .fn f u=>.ok True (.fn f u) st
  | .p (.ref v)=>.ok True (.p (.ref v)) st
  | .cp v z j=>.ok True (.cp v z j) st
  | _=>.bad
 | .dI H x y=>JR H (st.ev x) (st.ev y) st
 | .gJ H x y=>fC (gJ H (st.ev x) (st.ev y)) λv=>.ok True (.p v) st
 | .j' ks H x y=>fC (j' ks H (st.ev x) (st.ev y)) λv=>.ok True (.p v) st
 | .not x=>match st.ev x with
  | .p (.bool b)=>.ok True (.p (.bool (!b))) st
  | _=>.bad
 | .neg x=>match st.ev x with
  | .p (.int k n)=>.ok True (.p (.int k (k.wrap (0 - n)))) st
  | _=>.bad
 | .tA x=>match st.ev x with
  | .p (.int k n)=>.ok True (.p (.int k (G1 k (if k.signed then -1 else k.max) n))) st
  | _=>.bad
 | .conv k x=>match st.ev x with
  | .p (.int _ n)=>.ok True (.p (.int k (k.wrap n))) st
  | _=>.bad
 | .gT f u=>.ok ((u.map st.ev).all AV.one=true) (.fn f (u.map st.ev)) st
 | .cM r zero l c=>pC (st.ev l) λn=>pC (st.ev c) λm=>.ok (n<=m/\m<=eL/\zero.sz=r/\0<r) (.own d (st.site d).length 0 n) (st.alloc d ⟨r,List.replicate n zero.uT⟩)
 | .slice r x M J=>CK st M 0 λl=>match st.ev x with
  | .p (.sl A)=>CK st J A.length λh=>.ok ((l<=h/\h<=A.length)/\yL r A) (.p (.sl ((A.drop l).take (h - l)))) st
  | .own s g j t=>CK st J t λh=>fC (st.obj s g) λo=>.ok (l<=h/\h<=t/\j+t<=o.es.length/\o.sz=r) (.own s g (j+l) (h - l)) st
  | .nil=>CK st J 0 λh=>.ok (l=0/\h=0) .nil st
  | _=>.bad
 | .iP j x=>match st.ev x with
  | .ptr s g C o=>fC (st.obj s g) λ_=>.ok True (.ptr s g C (o+j)) st
  | .cp v z o=>.ok True (.cp v z (o+j)) st
  | _=>.bad
 | .field j r F x=>fC (st.ev x).jB λG=>fC (sW G j r F) λv=>.ok True v st
 | .cG r x i=>pC (st.ev i) λn=>match st.ev x with
  | .p (.sl A)=>.el A n λe=>.ok (e.sz=r/\0<r) (.cp e r 0) st
  | .own s g j t=>fC (st.obj s g) λo=>.ok (n<t/\j+t<=o.es.length/\o.sz=r) (.ptr s g (j+n) 0) st
  | _=>.bad
 | .cB m r x i=>pC (st.ev i) λn=>match st.ev x with
  | .ptr s g C o=>fC (st.obj s g) λ_=>.ok (n<m) (.ptr s g C (o+n*r)) st
  | .cp v z o=>.ok (n<m) (.cp v z (o+n*r)) st
  | _=>.bad
 | .idx m r F x i=>pC (st.ev i) λn=>fC (st.ev x).jB λG=>fC (sW G (n*r) r F) λv=>.ok (n<m) v st
 | .extract x i=>match st.ev x with
  | .bM E=>fC E[i]? λv=>.ok True v st
  | .p (.bM E)=>fC E[i]? λv=>.ok True (.p v) st
  | _=>.bad
 | .len x=>match st.ev x with
  | .p (.sl A)=>.ok True (.p (.int .i64 A.length)) st
  | .nil=>.ok True (.p (.int .i64 0)) st
  | .own _ _ _ t=>.ok True (.p (.int .i64 t)) st
  | _=>.bad
 | .append r a x=>zr st (st.ev x) λB=>match st.ev a with
  | .nil=>.ok (tZ r (B.map AV.ey)/\B.length<=eL) (.own d (st.site d).length 0 B.length) (st.alloc d ⟨r,B.map AV.ey⟩)
  | .own s g j t=>fC (st.obj s g) λo=>.ok (tZ r (B.map AV.ey)/\(j=0/\t=o.es.length/\o.sz=r/\t+B.length<=eL))
    (.own d ((aI st [(s,g)]).site d).length 0 (t+B.length)) ((aI st [(s,g)]).alloc d ⟨r,o.es++B.map AV.ey⟩)
  | _=>.bad
 | .ic D x=>match st.ev x with
  | .nil=>.ok True (.p (.bool (!D))) st
  | .p .nl=>.ok True (.p (.bool (!D))) st
  | .p .sle=>.ok True (.p (.bool D)) st
  | .p (.sl A)=>.ok (A≠[]) (.p (.bool D)) st
  | .own s g _ t=>fC (st.obj s g) λ_=>.ok (0<t) (.p (.bool D)) st
  | _=>.bad
 | .cap x=>match st.ev x with
  | .nil=>.ok True (.p (.int .i64 0)) st
  | _=>.bad
 | .clear r zero x=>match st.ev x with
  | .nil=>.ok True (.bM []) st
  | .own s g j t=>fC (st.obj s g) λo=>.ok (j+t<=o.es.length/\o.sz=r/\zero.sz=r) (.bM []) (st.setObj s g ⟨o.sz,o.es.take j++List.replicate t zero.ey++o.es.drop (j+t)⟩)
  | _=>.bad
 | .fE r zero a x=>pC (st.ev x) λn=>match st.ev a with
  | .nil=>.ok (0<n/\n<=eL/\zero.sz=r/\0<r) (.own d (st.site d).length 0 n) (st.alloc d ⟨r,List.replicate n zero.ey⟩)
  | _=>.bad
 | .mr I zero x k=>match st.ev x,st.ev k with
  | .p (.mp _ ks E),.p (.agg kc)=>.ok (kA I kc=true/\ks.all (sA I)=true) (match oE kc ks E with|some v=>.p v|none=>zero) st
  | _,_=>.bad
 | .jY I zero x k=>match st.ev x,st.ev k with
  | .p (.mp _ ks E),.p (.agg kc)=>.ok (kA I kc=true/\ks.all (sA I)=true) (match oE kc ks E with|some v=>.bM [.p v,.p (.bool true)]|none=>.bM [zero,.p (.bool false)]) st
  | _,_=>.bad
 | .qK x i=>pC (st.ev i) λn=>match st.ev x with
  | .p (.str s)=>.el s.data.toList n λb=>.ok True (.p (.int .u8 b.toNat)) st
  | _=>.bad
 | .min B=>fC (yh false (B.map st.ev)) λv=>.ok True (.p v) st
 | .max B=>fC (yh true (B.map st.ev)) λv=>.ok True (.p v) st
 | _=>.bad
section
variable {P:Program} {N:Nat} {st s1 st':St} {d:Nat} {K:AV->St->Prop}
theorem B1{c:Prop}:∀ {o:eB},fV K (o.and c)->fV K o/\c
 | .ok d v s,h=>⟨⟨h.1.2,h.2⟩,h.1.1⟩
 | .el l n f,⟨e,j,i⟩=>⟨⟨e,j,(B1 i).1⟩,(B1 i).2⟩
 | .br true a b,h=>⟨⟨λ_=>(B1 (h.1 rfl)).1,λh=>by cases h⟩,(B1 (h.1 rfl)).2⟩
 | .br false a b,h=>⟨⟨λh=>(by cases h),λ_=>(B1 (h.2 rfl)).1⟩,(B1 (h.2 rfl)).2⟩
def ycr{v:AV}{a b:eB}(h:fV K (Ki v a b)):(v=.p (.bool true)/\fV K a)\/(v=.p (.bool false)/\fV K b):=by
 unfold Ki at h;split at h
 .rename_i t;cases t
  .exact .inr ⟨rfl,h.2 rfl⟩
  .exact .inl ⟨rfl,h.1 rfl⟩
 .exact h.elim
theorem mV{α : Type}{o:Option α}{f : α -> eB}(h:fV K (fC o f)):∃ e,o=some e/\fV K (f e):=by
 cases o with
 | none=>exact h.elim
 | some x=>exact⟨x,rfl,h⟩
def BZ{v:AV}{f:Nat->eB}(h:fV K (pC v f)):∃ n,vw v=some n/\fV K (f n):=by
 unfold pC at h;split at h
 .rename_i k n;have:=B1 h;exact⟨n.toNat,by simp[vw,this.2],this.1⟩
 .exact h.elim
theorem I9{o:Option bP}{m:Nat}{f:Nat->eB}(h:fV K (CK st o m f)):∃ n,sP st o m=some n/\fV K (f n):=by
 unfold CK at h;cases o with
 | none=>exact⟨m,rfl,h⟩
 | some x=>exact BZ h
def PM{v:AV}{f:List AV->eB}(h:fV K (zr st v f)):∃ l,st.elems v=some l/\fV K (f l):=by
 unfold zr at h;split at h
 .exact⟨_,rfl,h⟩
 .exact⟨_,rfl,h⟩
 .exact⟨_,rfl,h⟩
 .exact⟨_,rfl,h⟩
 .obtain⟨o,b,i⟩:=mV h;have:=B1 i;exact⟨_,by simp[St.elems,b,this.2],this.1⟩
 .exact h.elim
def Yu{i:BinOp}{x y:AV}(h:fV K (JR i x y st)):∃ v,dI i x y=some v/\K (.p v) st:=by
 unfold JR at h;split at h
 .rename_i k a r b;split at h
  .rename_i o;by_cases l:xO i=true
   .cases i<;>simp only[xO,gP]at l
    .obtain⟨j,f⟩:=h;exact⟨_,by simp only[dI,xO,cH,F4];rw[bD (by omega)],f⟩
    .obtain⟨j,f⟩:=h;exact⟨_,by simp only[dI,xO,cH,F4];rw[bD (by omega),Int.fdiv_eq_ediv_of_nonneg _ (Int.pow_nonneg (by decide))],f⟩
   .have m:k=r:=o.resolve_left l;subst m;have n:∃ v,BF i k a b=some v/\K (.p v) st:=by
     cases i<;>simp only[xO,not_true_eq_false]at l<;>simp only[NI,fV]at h<;>first
      | exact⟨_,rfl,h.2⟩
      | (obtain⟨j,f⟩:=h;exact⟨_,by simp only[BF];rw[bD j],f⟩)
      | exact⟨_,by simp only[BF,bne,beq_eq_decide],h.2⟩
    obtain⟨v,j,f⟩:=n;exact⟨v,by simp only[dI,l,j,cH];rfl,f⟩
  .exact h.elim
 .exact h.elim
def YX{G:c7}(h:fV K (oc st d G)):∃ v s,bY none st d G=some (v,s)/\K v s:=by
 cases G<;>simp only[oc]at h<;>simp only[bY]
 case mv x=>exact⟨_,_,rfl,h.2⟩
 case pick c a b =>
  obtain⟨e,h⟩|⟨e,h⟩:=ycr h<;>rw[e]<;>exact⟨_,_,rfl,h.2⟩
 case alloc B zero=>exact⟨_,_,by rw[aX h.1],h.2⟩
 case box B x=>exact⟨_,_,by rw[aX h.1],h.2⟩
 case build zero parts=>obtain⟨V,t,p⟩:=mV h;exact⟨_,_,by rw[t],p.2⟩
 case b4 B zero n parts=>obtain⟨V,t,p⟩:=mV h;exact⟨_,_,by rw[aX p.1,t],p.2⟩
 case load B R x =>
  split at h
  .rename_i j;simp only[j];obtain⟨o,t,e,p,z⟩:=mV h;simp only[t,p];split at z
   .rename_i D;exact⟨_,_,by rw[aX D],z.2⟩
   .rename_i D;obtain⟨v,A,C⟩:=mV z;exact⟨_,_,by rw[bD D,A],C.2⟩
  .rename_i j;simp only[j];split at h
   .rename_i D;exact⟨_,_,by rw[aX D],h.2⟩
   .rename_i D;obtain⟨v,A,C⟩:=mV h;exact⟨_,_,by rw[bD D,A],C.2⟩
  .exact h.elim
 case store B a x =>
  split at h
  .rename_i j;simp only[j];obtain⟨o,t,e,p,A⟩:=mV h;simp only[t,p];split at A
   .rename_i D;exact⟨_,_,by rw[aX A.1,aX D],A.2⟩
   .rename_i D;obtain⟨v,C,U⟩:=mV A;exact⟨_,_,by rw[aX U.1,bD D,C],U.2⟩
  .exact h.elim
 case bV x =>
  split at h
  .rename_i j;simp only[j];obtain⟨o,t,p⟩:=mV h;exact⟨_,_,by rw[t],p.2⟩
  all_goals first|exact h.elim|(rename_i j;simp only[j];exact⟨_,_,rfl,h.2⟩)
 case dI G x y=>obtain⟨v,t,p⟩:=Yu h;exact⟨_,_,by rw[t],p⟩
 case gJ G x y=>obtain⟨v,t,p⟩:=mV h;exact⟨_,_,by rw[t],p.2⟩
 case j' ks G x y=>obtain⟨v,t,p⟩:=mV h;exact⟨_,_,by rw[t],p.2⟩
 case not x=>split at h<;>first|exact h.elim|(rename_i j;simp only[j];exact⟨_,_,rfl,h.2⟩)
 case neg x=>split at h<;>first|exact h.elim|(rename_i j;simp only[j];exact⟨_,_,rfl,h.2⟩)
 case tA x=>split at h<;>first|exact h.elim|(rename_i j;simp only[j];exact⟨_,_,rfl,h.2⟩)
 case conv k x=>split at h<;>first|exact h.elim|(rename_i j;simp only[j];exact⟨_,_,rfl,h.2⟩)
 case gT f S=>exact⟨_,_,by rw[aX h.1],h.2⟩
 case cM B zero l c =>
  obtain⟨n,t,h⟩:=BZ h;obtain⟨m,p,h⟩:=BZ h;exact⟨_,_,by simp only[t,p];rw[aX h.1],h.2⟩
 case slice B x lo hi =>
  obtain⟨l,t,h⟩:=I9 h;simp only[t];split at h
  .rename_i j;simp only[j];obtain⟨k,p,⟨z,A⟩,C⟩:=I9 h;simp only[p];exact⟨_,_,by rw[aX ⟨z.1,z.2,A.1,A.2⟩],C⟩
  .rename_i j;simp only[j];obtain⟨k,p,h⟩:=I9 h;obtain⟨o,z,A,C⟩:=mV h;simp only[p,z];exact⟨_,_,by rw[aX A],C⟩
  .rename_i j;simp only[j];obtain⟨k,p,A,C⟩:=I9 h;simp only[p];exact⟨_,_,by rw[aX A],C⟩
  .exact h.elim
 case iP M x =>
  split at h
  .rename_i j;simp only[j];obtain⟨o,t,p⟩:=mV h;exact⟨_,_,by rw[t],p.2⟩
  .rename_i j;simp only[j];exact⟨_,_,rfl,h.2⟩
  .exact h.elim
 case field M B R x=>obtain⟨v,t,h⟩:=mV h;obtain⟨u,p,z⟩:=mV h;exact⟨_,_,by simp only[t,p],z.2⟩
 case cG B x i =>
  obtain⟨n,t,h⟩:=BZ h;simp only[t];split at h
  .rename_i j;simp only[j];obtain⟨e,p,z,A⟩:=h;exact⟨_,_,by simp only[p];rw[aX z],A⟩
  .rename_i j;simp only[j];obtain⟨e,p,z,A⟩:=mV h;exact⟨_,_,by simp only[p];rw[aX z],A⟩
  .exact h.elim
 case cB m B x i =>
  obtain⟨n,t,h⟩:=BZ h;simp only[t];split at h
  .rename_i j;simp only[j];obtain⟨e,p,z,A⟩:=mV h;exact⟨_,_,by simp only[p];rw[aX z],A⟩
  .rename_i j;simp only[j];exact⟨_,_,by rw[aX h.1],h.2⟩
  .exact h.elim
 case idx m B R x i =>
  obtain⟨n,t,h⟩:=BZ h;obtain⟨v,p,h⟩:=mV h;obtain⟨u,z,E,A⟩:=mV h;exact⟨_,_,by simp only[t,E,cH,p,z],A⟩
 case extract x i =>
  split at h
  .rename_i j;simp only[j];obtain⟨e,p,z⟩:=mV h;exact⟨_,_,by rw[p],z.2⟩
  .rename_i j;simp only[j];obtain⟨e,p,z⟩:=mV h;exact⟨_,_,by rw[p],z.2⟩
  .exact h.elim
 case len x=>split at h<;>first|exact h.elim|(rename_i j;simp only[j];exact⟨_,_,rfl,h.2⟩)
 case append B a x =>
  obtain⟨I,t,h⟩:=PM h;simp only[t];split at h
  .rename_i j;obtain⟨⟨E,p⟩,z⟩:=h;have F:((I.map AV.ey).all λv=>v.sz == B)=true/\0<B:=E;simp only[j];rw[aX F];exact⟨_,_,by rw[aX p],z⟩
  .rename_i j;obtain⟨o,p,⟨E,z⟩,A⟩:=mV h;have F:((I.map AV.ey).all λv=>v.sz == B)=true/\0<B:=E;simp only[j];rw[aX F];simp only[p];exact⟨_,_,by rw[aX z],A⟩
  .exact h.elim
 case ic neg x =>
  split at h
  .rename_i j;simp only[j];exact⟨_,_,rfl,h.2⟩
  .rename_i j;simp only[j];exact⟨_,_,rfl,h.2⟩
  .rename_i j;simp only[j];exact⟨_,_,rfl,h.2⟩
  .rename_i W j;cases W with
   | nil=>exact absurd rfl h.1
   | cons y ys=>simp only[j];exact⟨_,_,rfl,h.2⟩
  .rename_i j;simp only[j];obtain⟨o,t,p,z⟩:=mV h;exact⟨_,_,by simp only[t];rw[aX p],z⟩
  .exact h.elim
 case cap x=>split at h<;>first|exact h.elim|(rename_i j;simp only[j];exact⟨_,_,rfl,h.2⟩)
 case clear B zero x =>
  split at h
  .rename_i j;simp only[j];exact⟨_,_,rfl,h.2⟩
  .rename_i j;simp only[j];obtain⟨o,t,p,z⟩:=mV h;exact⟨_,_,by simp only[t];rw[aX p],z⟩
  .exact h.elim
 case fE B zero a x =>
  obtain⟨n,t,h⟩:=BZ h;split at h
  .rename_i j;simp only[j,t];exact⟨_,_,by rw[aX h.1],h.2⟩
  .exact h.elim
 case mr Y zero x k =>
  split at h
  .rename_i r ks O kc t p;simp only[t,p];refine⟨_,_,?_,h.2⟩;rw[aX h.1];cases oE kc ks O<;>rfl
  .exact h.elim
 case jY Y zero x k =>
  split at h
  .rename_i r ks O kc t p;simp only[t,p];refine⟨_,_,?_,h.2⟩;rw[aX h.1];cases oE kc ks O<;>rfl
  .exact h.elim
 case qK x i =>
  obtain⟨n,t,h⟩:=BZ h;split at h
  .rename_i s j;simp only[j,t];obtain⟨b,X,p,z⟩:=h;have:s[n]?=some b:=by
    have E:=(List.getElem?_eq_some_iff.1 X);obtain⟨L,J⟩:=E;have H:n<s.size:=by simpa using L
    rw[getElem?_pos s n H,<- J];rfl
   exact⟨_,_,by simp only[this],z⟩
  .exact h.elim
 case min I=>obtain⟨v,t,p⟩:=mV h;exact⟨_,_,by rw[t],p.2⟩
 case max I=>obtain⟨v,t,p⟩:=mV h;exact⟨_,_,by rw[t],p.2⟩
 all_goals exact h.elim
end
inductive GC where
 | js
 | cX (ops:List Ins) (dead:List (List Nat))
 | fR (ops:List Ins) (pre:List (List Nat)) (dead:List (List Nat))
 | seq (a b:GC)
 | cond (c:bP) (dead:List Nat) (a b:GC)
 | bX (id:Nat) (b:GC)
 | loop (b:GC)
 | ext (id:Nat)
 | ret
 | bad
 | cut (b:GC)
 | Dp (b:GC)
def GC.er:GC->AC
 | .js=>.js
 | .cX is _=>.cX is
 | .fR is pre _=>.fR is pre
 | .seq a b=>.seq a.er b.er
 | .cond c _ a b=>.cond c a.er b.er
 | .bX id b=>.bX id b.er
 | .loop b=>.loop b.er
 | .ext id=>.ext id
 | .ret=>.ret
 | .bad=>.bad
 | .cut b=>b.er
 | .Dp b=>.Dp b.er
inductive Kt where
 | ins (is:List Ins) (dead:List (List Nat))
 | fN (is:List Ins) (fs:List FP) (pre:List (List Nat)) (dead:List (List Nat))
 | code (b:GC)
 | bX (id:Nat)
def GC.sz:GC->Nat
 | .cX is _=>is.length+2
 | .fR is _ _=>is.length+2
 | .seq a b=>a.sz+b.sz+1
 | .cond _ _ a b=>a.sz+b.sz+1
 | .bX _ b=>b.sz+2
 | .cut b=>b.sz+1
 | .Dp b=>b.sz+1
 | _=>1
def Kt.sz:Kt->Nat
 | .ins is _=>is.length+1
 | .fN is _ _ _=>is.length+1
 | .code b=>b.sz
 | .bX _=>1
def mZ:List Kt->Nat
 | []=>0
 | k::ks=>k.sz+mZ ks
def GC.eI(b:GC):0<b.sz:=by cases b<;>simp[GC.sz]
def Kt.eI(k:Kt):0<k.sz:=by cases k<;>simp[Kt.sz,GC.eI]
def fO(id:Nat):List Kt->Option (List Kt)
 | []=>none
 | .bX j::ks=>if j=id then some ks else fO id ks
 | _::ks=>fO id ks
theorem Ew{id:Nat}:∀ {ks r:List Kt},fO id ks=some r->mZ r<mZ ks
 | .bX j::ks,r,h=>by
  simp only[fO]at h;simp only[mZ,Kt.sz];split at h
  .cases h;omega
  .have:=Ew h;omega
 | .ins _ _::ks,r,h=>by have:=Ew (ks:=ks) h;simp only[mZ,Kt.sz];omega
 | .fN _ _ _ _::ks,r,h=>by have:=Ew (ks:=ks) h;simp only[mZ,Kt.sz];omega
 | .code _::ks,r,h=>by have:=Ew (ks:=ks) h;simp only[mZ,Kt.sz];omega
def rep:List (Nat × AV)->Nat->AV->List (Nat × AV)
 | [],t,v=>[(t,v)]
 | (k,w)::r,t,v=>if k=t then(t,v)::r else(k,w)::rep r t v
def St.rep(st:St)(d:Option Nat)(v:AV):St :=
 match d with
 | some t=>⟨Ab.rep st.sl t v,st.hp⟩
 | none=>st
def yc(b:List Nat):List (Nat × AV)->List (Nat × AV)
 | []=>[]
 | (k,w)::r=>if b.elem k then yc b r else(k,w)::yc b r
def St.drop(st:St)(dead:List Nat):St:=⟨yc dead st.sl,st.hp⟩
def St.eR(st:St):List (List Nat)->St
 | []::_=>st
 | (a::l)::_=>st.drop (a::l)
 | []=>st
def vW(P:Program)(st:St)(d:Nat)(f:FuncId)(vs:List AV)(K:bJ->AV->St->Prop):Prop :=
 ∃ c:bJ,c.ok P/\∃ v s,xR (some c) st d f vs=some (v,s)/\K c v s
def Fk(P:Program)(st:St)(d:Nat)(f:AV)(vs:List AV)(K:bJ->AV->St->Prop):Prop :=
 match f with
 | .p (.fn f b)=>vW P st d f (vs++b.map .p) K
 | .fn f b=>vW P st d f (vs++b) K
 | _=>False
def pA(P:Program)(st:St)(d:Nat)(op:c7)(K:Option bJ->AV->St->Prop):Prop :=
 match op with
 | .call f args=>vW P st d f (args.map st.ev) λc=>K (some c)
 | .iv x args=>Fk P st d (st.ev x) (args.map st.ev) λc=>K (some c)
 | op=>fV (K none) (oc st d op)
def BE(st:St)(g:Option (Nat × Bool))(K:St->Prop)(J:St->Prop):Prop :=
 match g with
 | none=>K st
 | some (t,b)=>match st.get t with
  | .p (.bool c)=>(c=b->K (st.rep (some t) (.p (.bool b))))/\(c=(!b)->J (st.rep (some t) (.p (.bool !b))))
  | .skip=>J st
  | _=>False
def JM:AV->Prop->Prop->Prop
 | .p (.bool t),A,B=>(t=true->A)/\(t=false->B)
 | _,_,_=>False
def eT(P:Program)(N:Nat)(Q:Exit->St->Prop):List Kt->Exit->St->Prop
 | [],ex,s=>Q ex s
 | .bX id::ks,ex,s=>match ex with
  | .exit j=>if j=id then eT P N Q ks .normal s else eT P N Q ks (.exit j) s
  | ex=>eT P N Q ks ex s
 | .code b::ks,ex,s=>match ex with
  | .normal=>∃ f l,cU P N b.er s f l/\eT P N Q ks f l
  | ex=>eT P N Q ks ex s
 | .ins k _::ks,ex,s=>match ex with
  | .normal=>∃ i s1 h,rK P k i s s1/\aA s1 h/\eT P N Q ks .normal h
  | ex=>eT P N Q ks ex s
 | .fN k m pre _::ks,ex,s=>match ex with
  | .normal=>∃ i s1 h,rK P k i s s1/\aJ [] 0 (m++i) pre=true/\aA s1 h/\eT P N Q ks .normal h
  | ex=>eT P N Q ks ex s
def vL(P:Program)(N:Nat)(Q:Exit->St->Prop)(b:GC)(ks:List Kt)(st:St):Prop:=∃ ex s,gu P N b.er st ex s/\eT P N Q ks ex s
def vm(P:Program)(N:Nat)(Q:Exit->St->Prop)(ks:List Kt)(st:St):Prop :=
 match ks with
 | []=>Q .normal st
 | .bX _::ks=>vm P N Q ks st
 | .ins [] f::ks=>vm P N Q ks st
 | .ins (i::j) f::ks=>BE st i.guard
   (λst=>pA P st (i.dst.getD 0) i.op λ_ v s=>vm P N Q (.ins j f.tail::ks) ((s.rep i.dst v).eR f))
   (λst=>vm P N Q (.ins j f.tail::ks) ((st.rep i.dst .skip).eR f))
 | .fN [] k pre f::ks=>aJ [] 0 k pre=true/\vm P N Q ks st
 | .fN (i::j) k pre f::ks=>BE st i.guard
   (λst=>pA P st (i.dst.getD 0) i.op λc v s=>vm P N Q (.fN j (k++[fp c st i]) pre f.tail::ks) ((s.rep i.dst v).eR f))
   (λst=>vm P N Q (.fN j (k++[fp none st i]) pre f.tail::ks) ((st.rep i.dst .skip).eR f))
 | .code .js::ks=>vm P N Q ks st
 | .code (.cX j f)::ks=>vm P N Q (.ins j f::ks) st
 | .code (.fR j pre f)::ks=>vm P N Q (.fN j [] pre f::ks) st
 | .code (.seq a b)::ks=>vm P N Q (.code a::.code b::ks) st
 | .code (.cond c f a b)::ks=>JM (st.ev c) (vm P N Q (.code a::ks) (st.drop f)) (vm P N Q (.code b::ks) (st.drop f))
 | .code (.bX id b)::ks=>vm P N Q (.code b::.bX id::ks) st
 | .code (.loop b)::ks=>vL P N Q b ks st
 | .code (.ext id)::ks=>match h:fO id ks with
  | some l=>vm P N Q l st
  | none=>Q (.exit id) st
 | .code .ret::_=>Q .ret st
 | .code .bad::_=>False
 | .code (.cut b)::ks=>eT P N Q (.code b::ks) .normal st
 | .code (.Dp _)::_=>False
termination_by mZ ks
decreasing_by all_goals (try have:=Ew h);simp only[mZ,Kt.sz,GC.sz,qH];(try have:=GC.eI ‹GC›);omega
end Go.Ab
