/- Lemmas for the law ComposeBuildsMadeModels, part 4. No conditions. -/
import Derived.Test.YthhdboljpgdcpaaGreatDoorAP03
set_option maxRecDepth 100000
set_option maxHeartbeats 4000000
set_option linter.all false
namespace Go.Ab
section
variable {P:Program} {K:Ctx} {Z Z':Cz} {st st':St} {w w':World} {a:Act} {orc:Option bI} {d:Nat} {v:AV}
def Keep.trans{w0 w1 w2:World}{X:Nat->Prop}(h:Keep w0 w1 X)(k:Keep w1 w2 (λ_=>False)):Keep w0 w2 X :=
 ⟨k.os.trans h.os,k.tape.trans h.tape,k.output.trans h.output,dP h.drawn k.drawn,dP h.size k.size,λb f i=>(k.bU b (iC f h.size) (λh=>h)).trans (h.bU b f i)⟩
def cO.jY{f:Nat->Option Obj}(i:∀ b o,Z.M b=some o->f b=some o):cO Z st { Z with M:=f } st :=
 ⟨i,λ_=>dK _,λ_ _ _ h=>h,λ_ _ o h=>.inr ⟨o,h,rfl,rfl,rfl,rfl⟩⟩
def bC.grow(h:bC K Z st w)(k:Keep w w' (λ_=>False))(f:Nat->Option Obj)(j:∀ b o,Z.M b=some o->f b=some o)(m:∀ b o,f b=some o->w'.heap[b]?=some o)
  (h3:∀ b o,f b=some o->Z.M b=some o\/K.X0 b\/K.w0.heap.size<=b) (n:∀ s g o b,st.obj s g=some o->Z.B s g=some b->f b=none):bC K { Z with M:=f } st w':=by
 refine⟨λs g o l=>(h.bR s g o l).later (cO.jY j) rfl rfl (λb i=>k.bU b (h.lt l i) (λh=>h)),h.inj,m,n,h.own,λb o i=>j b o (h.m0 b o i),λb o i=>?_,h.keep.trans k⟩;obtain h|h|h:=h3 b o i
 .exact bC.eE ‹_› b o h
 .exact .inr (.inl h)
 .exact .inr (.inr h)
def bC.yj(h:bC K Z st w)(d:Nat)(o:bD)(b:Nat)(cur:Array Value)(T:TypeId)(c:Nat)(vals:List Value)(N:w.heap[b]?=some (.cells cur T (0,0)))(L:Z.M b=none)
  (y:∀ s g o,st.obj s g=some o->Z.B s g≠some b) (r:K.X0 b\/K.w0.heap.size<=b)
  (C:0<o.sz) (D:∀ e∈o.es,e.sz=o.sz) (h3:∀ x∈o.es.flatMap AV.cells,x.one=true) (E:aG Z st (o.es.flatMap AV.cells) vals)
  (F:∀ (i:Nat) (v:Value),vals[i]?=some v->cur[i]?=some v) (G:cur.size=c*o.sz) (H:o.es.length<=c) (I:c<=maxLen) :
  bC K (Z.bO d (st.site d).length (some b) c) (st.alloc d o) w:=by
 have hz:=cO.alloc Z st d o (some b) c;have t:∀ {s g:Nat},¬ (s=d/\g=(st.site d).length)->(Z.bO d (st.site d).length (some b) c).B s g=Z.B s g:=λr=>by simp only[Cz.bO];rw[aY r]
 have J:∀ {s g:Nat},¬ (s=d/\g=(st.site d).length)->(Z.bO d (st.site d).length (some b) c).cap s g=Z.cap s g:=λr=>by simp only[Cz.bO];rw[aY r]
 refine⟨λs g o' k=>?_,λs g s' g' o' z u k p m n=>?_,h.mem,λs g o' u k j=>?_,λs g o' u k j=>?_,h.m0,h.eE,h.keep⟩
 .rw[kY]at k;by_cases r:s=d/\g=(st.site d).length
  .rw[aW r]at k;cases k;obtain⟨rfl,rfl⟩:=r;refine⟨C,D,h3,λA=>(by simp[Cz.bO]at A),λu j=>?_⟩;simp only[Cz.bO,and_self,cB,cF]at j ⊢;subst j;exact⟨cur,T,vals,N,aG.mono hz E,F,G,H,I⟩
  .rw[aY r]at k;exact(h.bR s g o' k).later hz (t r) (J r) (λ_ _=>rfl)
 .rw[kY]at k p;by_cases f:s=d/\g=(st.site d).length<;>by_cases l:s'=d/\g'=(st.site d).length
  .exact⟨f.1.trans l.1.symm,f.2.trans l.2.symm⟩
  .rw[aY l]at p;rw[t l]at n;obtain⟨rfl,rfl⟩:=f;simp only[Cz.bO,and_self,cB,cF]at m;subst m;exact absurd n (y s' g' z p)
  .rw[aY f]at k;rw[t f]at m;obtain⟨rfl,rfl⟩:=l;simp only[Cz.bO,and_self,cB,cF]at n;subst n;exact absurd m (y s g o' k)
  .rw[aY f]at k;rw[aY l]at p;rw[t f]at m;rw[t l]at n;exact h.inj s g s' g' o' z u k p m n
 .rw[kY]at k;by_cases f:s=d/\g=(st.site d).length
  .obtain⟨rfl,rfl⟩:=f;simp only[Cz.bO,and_self,cB,cF]at j;subst j;exact L
  .rw[aY f]at k;rw[t f]at j;exact h.sep s g o' u k j
 .rw[kY]at k;by_cases f:s=d/\g=(st.site d).length
  .obtain⟨rfl,rfl⟩:=f;simp only[Cz.bO,and_self,cB,cF]at j;subst j;exact r
  .rw[aY f]at k;rw[t f]at j;exact h.own s g o' u k j
theorem bC.aJ:∀ (ids:List (Nat × Nat)) {st:St},bC K Z st w->bC K Z (aJ st ids) w
 | [],_,h=>h
 | (s,g)::r,_,h=>bC.aJ r (h.kill s g)
theorem cO.aJ:∀ (ids:List (Nat × Nat)) (st:St),cO Z st Z (aJ st ids)
 | [],st=>cO.refl Z st
 | (s,g)::r,st=>(cO.kill Z st s g).trans (cO.aJ r (st.kill s g))
theorem Dy:∀ (ids:List (Nat × Nat)) (st:St) {s g:Nat} {o:bD},(aJ st ids).obj s g=some o->st.obj s g=some o/\(s,g)∉ids
 | [],st,s,g,o,h=>⟨h,by simp⟩
 | (k,i)::r,st,s,g,o,h=>by
  obtain⟨b,j⟩:=Dy r (st.kill k i) h;rw[AS]at b;split at b
  .cases b
  .rename_i f;exact⟨b,by simp only[bY,dA,not_or];exact⟨f,j⟩⟩
theorem zY:∀ (ids:List (Nat × Nat)) (st:St),(aJ st ids).sl=st.sl
 | [],_=>rfl
 | (s,g)::r,st=>zY r (st.kill s g)
def Oz{M b:Nat->Option Obj}{v:PV}{x:Value}(f:v.rD=true)(h:PRep M v x):PRep b v x:=by cases v<;>first|(simp[PV.rD]at f;done)|(cases h;constructor;done)|(cases h;exact .any _ (by assumption))
theorem Lf{M f:Nat->Option Obj}:∀ {vs:List PV} {xs:List Value},(∀ c∈vs,c.rD=true)->PReps M vs xs->PReps f vs xs
 | _,_,_,.nil=>.nil
 | _,_,b,.cons _ _ _ _ h j=>.cons _ _ _ _ (Oz (b _ (by simp)) h) (Lf (λc i=>b c (by simp[i])) j)
theorem ybd{M i:Nat->Option Obj}{v:PV}{x:Value}(f:v.flat=true)(h:PRep M v x):PRep i v x:=by
 cases v<;>first|exact Oz f h|skip
 cases h with
 | agg _ b j k=>exact .agg _ b j (Lf (by simpa[PV.flat]using f) k)
def OA{M i:Nat->Option Obj}{v:PV}{x:Value}(b:v.nL=true)(h:PRep M v x):PRep i v x:=by
 obtain b|b:=(B' _ _).mp b
 .exact ybd b h
 .unfold PV.unit at b;split at b
  .cases h with
   | bP _ f h=>cases h;exact .bP _ [] .nil
  .cases b
theorem KX{M l:Nat->Option Obj}:∀ {es:List PV} {vals:List Value},(∀ e∈es,e.flat=true)->PReps M (es.flatMap PV.cells) vals->PReps l (es.flatMap PV.cells) vals
 | [],vals,_,h=>by cases h;exact .nil
 | e::es,vals,k,h=>by
  rw[jG]at h ⊢;have i:=h.take e.cells.length;have j:=h.drop e.cells.length;rw[List.take_left]at i;rw[List.drop_left]at j;have f:=k e (by simp);rw[<- List.take_append_drop e.cells.length vals];refine PReps.append ?_ (KX (λq m=>k q (by simp[m])) j);refine Lf (λc b=>?_) i;cases e<;>first|(simp only[PV.cells,jF]at b;subst b;exact f)|skip
  simp only[PV.flat,kR]at f;exact f c b
theorem Ou{c:bI}{vs:List AV}{x:Value}{j:Nat->Option Obj}(hs:bC K Z st w)(X:∀ b o,Mx Z st w (vs.flatMap (aO st aZ)) b=some o->j b=some o)(hw:∀ b o,j b=some o->w'.heap[b]?=some o)
  (J:∀ b o,j b=some o->Mx Z st w (vs.flatMap (aO st aZ)) b=some o\/w.heap.size<=b) (hk:Keep w w' (λ_=>False)) (N:sf j w w' c.res x) (i:yr c st d (vs.flatMap (aO st aZ))=some (v,st')) :
  ∃ Z',bC K Z' st' w'/\aM Z' st' v x/\cO Z st Z' st':=by
 generalize ag:vs.flatMap (aO st aZ)=r at *
 obtain⟨A,st1,g1,V,W,g4,g5,k⟩:∃ (A:Cz) (st1:St),st1=(if c.res.flat then st else aJ st r)/\bC K A st1 w'/\cO Z st A st1/\A.B=Z.B /\
   (∀ s g o,st1.obj s g=some o->st.obj s g=some o)/\((c.res.flat=true)\/A.M=j)/\(∀ b,j b=none->A.M b=none):=by
  cases ao:c.res.flat with
  | true =>
   have t:∀ b o,Z.M b=some o->(λb=>match j b with|some o=>if (Z.M b).isSome=true\/w.heap.size<=b then some o else none|none=>none) b=some o:=by intro b o f;have:=X b o (mH f);simp[this,f]
   refine⟨{ Z with M:=λb=>match j b with|some o=>if (Z.M b).isSome=true\/w.heap.size<=b then some o else none|none=>none },st,by simp,?_,cO.jY t,rfl,λ_ _ _ h=>h,.inl rfl,λb f=>by simp[f]⟩;have n:∀ b o,(match j b with|some o=>if (Z.M b).isSome=true\/w.heap.size<=b then some o else none|none=>none)=some o->j b=some o/\((Z.M b).isSome=true\/w.heap.size<=b):=by
    intro b o h;split at h
    .rename_i o' z;split at h
     .rename_i hc;cases h;exact⟨z,hc⟩
     .cases h
    .cases h
   refine hs.grow hk _ t (λb o f=>hw b o (n b o f).1) (λb o f=>?_) (λs g o b F f=>?_)
   .obtain⟨m1,O⟩:=n b o f;obtain O|O:=O
    .obtain⟨o',z⟩:=Cc.1 O;have:=X b o' (mH z);rw[m1]at this;cases this;exact .inl z
    .exact .inr (.inr (dP hs.keep.size O))
   .have h0:=hs.sep s g o b F f;have h1:=hs.lt F f;cases hm:j b with
    | none=>simp
    | some y=>simp[h0];omega
  | false =>
   have t:∀ b o,Z.M b=some o->j b=some o:=λb o f=>X b o (mH f);refine⟨{ Z with M:=j },aJ st r,by simp,?_,(cO.aJ r st).trans (cO.jY t),rfl,λs g o h=>(Dy r st h).1,.inr rfl,λ_ h=>h⟩;refine(bC.aJ r hs).grow hk j t hw (λb o f=>?_) (λs g o b F f=>?_)
   .obtain h|h:=J b o f
    .obtain h|⟨_,_,s,g,ob,_,S,U⟩:=rJ h
     .exact .inl h
     .exact .inr (hs.own s g ob b S U)
    .exact .inr (.inr (dP hs.keep.size h))
   .obtain⟨D,ad⟩:=Dy r st F;cases hm:j b with
    | none=>rfl
    | some y =>
     exfalso;obtain h|h:=J b y hm
     .obtain h|⟨_,_,s',g',ob,e1,S,U⟩:=rJ h
      .rw[hs.sep s g o b D f]at h;cases h
      .obtain⟨rfl,rfl⟩:=hs.inj s g s' g' o ob b D S f U;exact ad e1
     .have:=hs.lt D f;omega
 obtain⟨k,g7⟩:=k;unfold yr at i;rw[<- g1]at i;cases m:c.res with
 | pure u =>
  rw[m]at N i k;simp only[cF,dA]at i;obtain⟨rfl,rfl⟩:=i;refine⟨A,V,.p _ _ ?_,W⟩;obtain k|k:=k
  .exact OA k N
  .rw[k];exact N
 | fresh Q H =>
  rw[m]at N i k;simp only at i;split at i
  .rename_i hc;obtain⟨I,hp,al⟩:=hc;simp only[Option.some.injEq,Prod.mk.injEq]at i;obtain⟨rfl,rfl⟩:=i;have af:∀ e∈H,e.sz=Q:=λe i=>by simpa using List.all_eq_true.1 I e i
   obtain⟨rfl,rfl⟩|⟨b,G,R,T,C,rfl,r1,r2,r3,r4,r5,r6,r7,r8,r9⟩:=N
   .exact⟨_,V.iM d Q hp,.dU d _ ⟨Q,[]⟩ (by rw[kY,aW ⟨rfl,rfl⟩];rfl) (by simp[Cz.bO]),W.trans (cO.alloc _ _ _ _ _ _)⟩
   .have E:aG A st1 ((H.map AV.p).flatMap AV.cells) C:=by
     rw[qT];refine aG.lS ?_;obtain k|k:=k
     .exact KX (by simpa[RV.flat]using k) r4
     .rw[k];exact r4
    have Y:=V.yj d ⟨Q,H.map .p⟩ b R T G C r3 (g7 b r2) (λs g o F f=>by rw[g4]at f;have:=hs.lt (g5 s g o F) f;omega) (.inr (dP hs.keep.size r1)) hp
     (λe i=>by simp at i;obtain⟨q,L,rfl⟩:=i;exact af q L)
     (λq L=>by rw[qT]at L;simp only[cD]at L;obtain⟨u,hu,rfl⟩:=L;exact r9 u hu)
     E r5 r6 (by simpa using r7) r8
    refine⟨_,Y,?_,W.trans (cO.alloc _ _ _ _ _ _)⟩;exact .own d _ 0 H.length ⟨Q,H.map .p⟩ b _ G (by rw[kY,aW ⟨rfl,rfl⟩]) (by simp[Cz.bO]) (λ_=>⟨rfl,by simp[Cz.bO]⟩) (λ_=>by simp) (by simp) r7
  .cases i
 | same l=>rw[m]at i;simp only at i;cases i
 | oa _ _ _ _=>rw[m]at i;simp only at i;cases i
def bC.Br(h:bC K Z st w){s g:Nat}{o:bD}(z:st.obj s g=some o)(t:Keep w w' (λc=>Z.B s g=some c))(r:Nat->Option Obj)(F:∀ b o,Z.M b=some o->r b=some o)(R:∀ b o,r b=some o->w'.heap[b]?=some o)
  (h3:∀ b o,r b=some o->Z.M b=some o\/K.X0 b\/K.w0.heap.size<=b) (S:∀ s g o b,st.obj s g=some o->Z.B s g=some b->r b=none) (i:List PV) (hl:i.length=o.es.length) (V:sg r w' (Z.B s g) (Z.cap s g) o.sz i) :
  bC K { Z with M:=r } (st.setObj s g ⟨o.sz,i.map .p⟩) w':=by
 have H:=nO z;have hz:cO Z st { Z with M:=r } (st.setObj s g ⟨o.sz,i.map .p⟩):=(cO.jY F).trans (cO.setObj _ st s g o ⟨o.sz,i.map .p⟩ z rfl (by simpa using hl));have C:∀ {s' g':Nat} {o':bD},(st.setObj s g ⟨o.sz,i.map .p⟩).obj s' g'=some o'->∃ o1,st.obj s' g'=some o1:=by
  intro s' g' o' n;rw[vp _ _ _ _ _ _ H]at n;split at n
  .rename_i m;obtain⟨rfl,rfl⟩:=m;exact⟨o,z⟩
  .exact⟨o',n⟩
 obtain⟨a1,I,J,L,N⟩:=V;refine⟨λs' g' o' f=>?_,λs' g' E D o' ad j x y O Q=>?_,R,λs' g' o' j x y=>?_,λs' g' o' j x y=>?_,λb o u=>F b o (h.m0 b o u),λb o u=>?_,?_⟩
 .rw[vp _ _ _ _ _ _ H]at f;by_cases m:s'=s/\g'=g
  .rw[aW m]at f;cases f;obtain⟨rfl,rfl⟩:=m;refine⟨a1,λe m=>?_,λc G=>?_,λhn=>?_,λj k=>?_⟩
   .obtain⟨q,hq,rfl⟩:=cD.1 m;exact I q hq
   .rw[qT]at G;obtain⟨q,hq,rfl⟩:=cD.1 G;exact J q hq
   .have:=L hn;rw[this];rfl
   .obtain⟨_,cur,T,vals,W,X,Y,k4,k5,k6⟩:=N j k;exact⟨cur,T,vals,W,by rw[qT];exact aG.lS X,Y,k4,by simpa using k5,k6⟩
  .rw[aY m]at f;refine(h.bR s' g' o' f).later hz rfl rfl (λj k=>t.bU j (h.lt f k) (λn=>?_));exact m (h.inj s' g' s g o' o j f z k n)
 .obtain⟨o1,A⟩:=C x;obtain⟨o2,x2⟩:=C y;exact h.inj s' g' E D o1 o2 j A x2 O Q
 .obtain⟨o1,A⟩:=C x;exact S s' g' o1 j A y
 .obtain⟨o1,A⟩:=C x;exact h.own s' g' o1 j A y
 .obtain l|l|l:=h3 b o u
  .exact h.eE b o l
  .exact .inr (.inl l)
  .exact .inr (.inr l)
 .refine⟨t.os.trans h.keep.os,t.tape.trans h.keep.tape,t.output.trans h.keep.output,dP h.keep.drawn t.drawn,dP h.keep.size t.size,λb u n=>?_⟩;rw[t.bU b (iC u h.keep.size) (λU=>?_)]
  .exact h.keep.bU b u n
  .obtain l|l:=h.own s g o b z U
   .exact n l
   .omega
def Qo{u:Option AV}{s g b:Nat}{sl:Bool}(h:AG u=some (s,g,b,sl)):(u=some (.own s g 0 b)/\sl=true)\/(u=some (.ptr s g 0 0)/\b=1/\sl=false):=by
 unfold AG at h;split at h
 .split at h
  .rename_i f;cases h;subst f;exact .inl ⟨rfl,rfl⟩
  .cases h
 .split at h
  .rename_i f;cases h;obtain⟨rfl,rfl⟩:=f;exact .inr ⟨rfl,rfl,rfl⟩
  .cases h
 .cases h
def QE{c:bI}{i sz:Nat}{j:List PV}{vs:List AV}(b:za c i sz j st vs=some (v,st')):∃ s g f sl o,AG vs[i]?=some (s,g,f,sl)/\st.obj s g=some o/\i<vs.length/\f=o.es.length/\j.length=f/\o.sz=sz /\
  (s,g)∉(vs.eraseIdx i).flatMap (aO st aZ)++o.es.flatMap (aO st 5) /\
  ((∃ u,c.res=.pure u/\v=.p u)\/∃ l,c.res=.same l/\l<=f/\sl=true/\v=.own s g 0 l) /\
  st'=DH c j st ((vs.eraseIdx i).flatMap (aO st aZ)++o.es.flatMap (aO st 5)) s g sz:=by
 unfold za at b;split at b
 .rename_i s g f sl k;split at b
  .rename_i o B;dsimp only at b;generalize h:(vs.eraseIdx i).flatMap (aO st aZ)++o.es.flatMap (aO st 5)=r at b;by_cases t:i<vs.length/\f=o.es.length/\j.length=f/\o.sz=sz/\j.all (λv=>v.sz == sz)=true/\(j.flatMap PV.cells).all PV.one=true/\r.contains (s,g)=false
   .rw[aW t]at b;obtain⟨x,y,z,A,G,H,C⟩:=t;have n:(s,g)∉r:=by intro E;have:=DW.2 E;rw[C]at this;cases this
    split at b
    .rename_i u F;simp only[cF,dA]at b;obtain⟨rfl,rfl⟩:=b;exact⟨s,g,f,sl,o,k,B,x,y,z,A,by rw[h];exact n,.inl ⟨u,F,rfl⟩,by rw[h]⟩
    .cases b
    .rename_i l D;split at b
     .rename_i m;simp only[cF,dA]at b;obtain⟨rfl,rfl⟩:=b;exact⟨s,g,f,sl,o,k,B,x,y,z,A,by rw[h];exact n,.inr ⟨l,D,m.1,m.2,rfl⟩,by rw[h]⟩
     .cases b
    .cases b
   .rw[aY t]at b;cases b
  .cases b
 .cases b
def Xm{c:bI}{i sz:Nat}{f:List PV}{vs:List AV}{x:Value}{t:Nat->Option Obj}{s g Y:Nat}{sl:Bool}{o:bD}(hs:bC K Z st w)(F:st.obj s g=some o)(aq:Y=o.es.length)(al:o.sz=sz)
  (ag:(s,g)∉(vs.eraseIdx i).flatMap (aO st aZ)++o.es.flatMap (aO st 5))
  (hM:∀ b o',Mx Z st w ((vs.eraseIdx i).flatMap (aO st aZ)++o.es.flatMap (aO st 5)) b=some o'->t b=some o') (hw:∀ b o,t b=some o->w'.heap[b]?=some o)
  (W:∀ b o',t b=some o'->Mx Z st w ((vs.eraseIdx i).flatMap (aO st aZ)++o.es.flatMap (aO st 5)) b=some o'\/w.heap.size<=b) (hk:Keep w w' (λc=>Z.B s g=some c)) (L:f.length=o.es.length)
  (k:sg t w' (Z.B s g) (Z.cap s g) sz f) (N:CB t w w' (Z.B s g) (Z.cap s g) o.es.length c.res x)
  (hv:(∃ u,c.res=.pure u/\v=.p u)\/∃ l,c.res=.same l/\l<=Y/\sl=true/\v=.own s g 0 l)
  (C:st'=DH c f st ((vs.eraseIdx i).flatMap (aO st aZ)++o.es.flatMap (aO st 5)) s g sz) :
  ∃ Z',bC K Z' st' w'/\aM Z' st' v x/\cO Z st Z' st':=by
 generalize ap:(vs.eraseIdx i).flatMap (aO st aZ)++o.es.flatMap (aO st 5)=n at *
 subst al;unfold DH at C;have S:∀ {Q:Cz} {st1:St},Q.B=Z.B->Q.cap=Z.cap->(st1.setObj s g ⟨o.sz,f.map .p⟩).obj s g=some ⟨o.sz,f.map .p⟩->(∀ u,c.res=.pure u->PRep Q.M u x)->aM Q (st1.setObj s g ⟨o.sz,f.map .p⟩) v x:=by
  intro Q st1 hB hC V hp;obtain⟨u,X,rfl⟩|⟨l,af,av,au,rfl⟩:=hv
  .exact .p _ _ (hp u X)
  .rw[af]at N;obtain⟨_,hx⟩:=N;cases j:Z.B s g with
   | none =>
    rw[j]at hx k;have h0:=k.2.2.2.1 rfl;have:l=0:=by rw[h0]at L;simp at L;omega
    subst this;rw[hx];exact .dU s g _ V (by rw[hB,j])
   | some b =>
    rw[j]at hx k;obtain⟨_,R,T,H,k1,k2,k3,k4,k5,k6⟩:=k.2.2.2.2 b rfl;rw[hx];exact .own s g 0 l _ b ⟨b,0,none⟩ _ V (by rw[hB,j]) (λ_=>⟨rfl,by rw[hC]⟩) (λ_=>by simp) (by simp;omega) (by omega)
 by_cases E:(c.res.flat&&f.all PV.flat)=true
 .rw[aW E]at C;subst C;simp only[kq]at E;obtain⟨U,ad⟩:=E;generalize I:(λb=>match t b with|some o=>if (Z.M b).isSome=true\/w.heap.size<=b then some o else none|none=>none)=O;have m:∀ b o,O b=some o->t b=some o/\((Z.M b).isSome=true\/w.heap.size<=b):=by
   intro b o h;rw[<- I]at h;simp only at h;split at h
   .rename_i o' G;split at h
    .rename_i hc;cases h;exact⟨G,hc⟩
    .cases h
   .cases h
  have z:∀ b o,Z.M b=some o->O b=some o:=by intro b o j;have:=hM b o (mH j);rw[<- I];simp[this,j]
  have hh:=hs.Br F hk O z (λb o j=>hw b o (m b o j).1) (λb o j=>by
   obtain⟨m1,D⟩:=m b o j;obtain D|D:=D
   .obtain⟨o',G⟩:=Cc.1 D;have:=hM b o' (mH G);rw[m1]at this;cases this;exact .inl G
   .exact .inr (.inr (dP hs.keep.size D))) (λs g o b F j=>by
    have h0:=hs.sep s g o b F j;have h1:=hs.lt F j;cases hm:O b with
    | none=>rfl
    | some y =>
     obtain⟨_,D⟩:=m b y hm;obtain D|D:=D
     .rw[h0]at D;cases D
     .omega) f L (by
    obtain⟨q1,q2,q3,q4,q5⟩:=k;refine⟨q1,q2,q3,q4,λb j=>?_⟩;obtain⟨r0,R,T,H,r1,r2,r3⟩:=q5 b j;refine⟨?_,R,T,H,r1,KX (by simpa using ad) r2,r3⟩;rw[<- I];simp[r0])
  have hz:cO Z st { Z with M:=O } (st.setObj s g ⟨o.sz,f.map .p⟩):=(cO.jY z).trans (cO.setObj _ st s g o ⟨o.sz,f.map .p⟩ F rfl (by simpa using L));refine⟨_,hh,S rfl rfl (by rw[vp _ _ _ _ _ _ (nO F),if_pos ⟨rfl,rfl⟩]) (λu X=>?_),hz⟩;rw[X]at N U;exact OA U N
 .rw[aY E]at C;subst C;have A:(aJ st n).obj s g=some o:=by
   have ao:∀ (l:List (Nat × Nat)) (st:St),(s,g)∉l->st.obj s g=some o->(aJ st l).obj s g=some o:=by
    intro l
    induction l with
    | nil=>intro st _ h;exact h
    | cons q r ih =>
     intro st hq h;obtain⟨s',g'⟩:=q;simp only[bY,dA,not_or]at hq;exact ih (st.kill s' g') hq.2 (by rw[AS,aY hq.1];exact h)
   exact ao n st ag F
  have z:∀ b o,Z.M b=some o->t b=some o:=λb o j=>hM b o (mH j);have hh:=(bC.aJ n hs).Br A hk t z hw (λb o j=>by
   obtain h|h:=W b o j
   .obtain h|⟨_,_,s,g,ob,_,e2,e3⟩:=rJ h
    .exact .inl h
    .exact .inr (hs.own s g ob b e2 e3)
   .exact .inr (.inr (dP hs.keep.size h))) (λs g o b F j=>by
    obtain⟨J,A⟩:=Dy n st F;cases hm:t b with
    | none=>rfl
    | some y =>
     exfalso;obtain h|h:=W b y hm
     .obtain h|⟨_,_,s',g',ob,e1,e2,e3⟩:=rJ h
      .rw[hs.sep s g o b J j]at h;cases h
      .obtain⟨rfl,rfl⟩:=hs.inj s g s' g' o ob b J e2 j e3;exact A e1
     .have:=hs.lt J j;omega) f L k
  have hz:cO Z st { Z with M:=t } ((aJ st n).setObj s g ⟨o.sz,f.map .p⟩):=((cO.aJ n st).trans (cO.jY z)).trans (cO.setObj _ _ s g o ⟨o.sz,f.map .p⟩ A rfl (by simpa using L));refine⟨_,hh,S rfl rfl (by rw[vp _ _ _ _ _ _ (nO A),if_pos ⟨rfl,rfl⟩]) (λu X=>?_),hz⟩;rw[X]at N;exact N
end
def DM(M:Nat->Option Obj)(ks vs:List PV)(es:Array MapEntry)(b:Nat):Prop :=
 PReps M ks (es.toList.map (·.key))/\PReps M vs (es.toList.map (·.val))/\(es.toList.map (·.key)).Nodup/\(∀ e∈es.toList,e.born<b)/\(es.toList.map (·.born)).Nodup
structure sj (Z:Cz) (st:St) (w:World) (r:Nat):Prop where
 m:Z.M r=none
 o:∀ s g o,st.obj s g=some o->Z.B s g≠some r
 lt:r<w.heap.size
def lD(Z:Cz)(st:St)(b:Nat):Prop:=∃ s g o,st.obj s g=some o/\Z.B s g=some b
abbrev j3:=Nat × List PV × List PV
def yW:Option j3->Nat->Prop
 | none,_=>False
 | some m,b=>b=m.1
def qq(o:Option j3)(K:Ctx)(Z:Cz)(st:St)(w:World):Prop :=
 match o with
 | none=>True
 | some m=>sj Z st w m.1/\(K.X0 m.1\/K.w0.heap.size<=m.1)/\∃ f b,w.heap[m.1]?=some (.map f b)/\DM Z.M m.2.1 m.2.2 f b
def sh(k:HV)(Z:Cz)(st:St)(w0 w:World)(x:Value):Prop :=
 match k with
 | .av v=>aM Z st v x
 | .fr l p=>sf Z.M w0 w (.fresh l p) x/\∀ b n c,x=.slice (some ⟨b,0,none⟩) n c->∀ s g o,st.obj s g=some o->Z.B s g≠some b
 | .bx l e r=>∃ (b h:Nat) (j:Array Value) (T:TypeId) (f m:List Value),x=.tuple (.pointer (some ⟨b,0,none⟩)::m).toArray/\PReps Z.M r m/\w0.heap.size<=b/\Z.M b=none/\w.heap[b]?=some (.cells j T (0,0))/\aG Z st e.cells f /\
  (∀ (i:Nat) (v:Value),f[i]?=some v->j[i]?=some v)/\j.size=h*l/\(1<=h/\h<=maxLen)/\(∀ c∈e.cells,c.one=true)/\∀ s g o,st.obj s g=some o->Z.B s g≠some b
abbrev oy(Z:Cz)(hp:List Site)(o:Option j3)(w:World):Ctx:=⟨w,Z.M,λb=>lD Z ⟨[],hp⟩ b\/yW o b,0⟩
def kO(P:Program)(f:FuncId)(vs:List AV)(hp:List Site)(o:Option j3)(j:HV)(b:List Site)(o':Option j3):Prop :=
 (∃ i,P.funcs[f]?=some i/\i.body.isSome=true/\i.name ≠ "runtime.NumGoroutine") /\
 ∀ (Z:Cz) (w:World) (h:List Value),bC (oy Z hp o w) Z ⟨[],hp⟩ w->qq o (oy Z hp o w) Z ⟨[],hp⟩ w->aG Z ⟨[],hp⟩ vs h ->
  Calls P f h.toArray w λe w'=>∃ x Z',e=.returned x/\bC (oy Z hp o w) Z' ⟨[],b⟩ w'/\sh j Z' ⟨[],b⟩ w w' x/\cO Z ⟨[],hp⟩ Z' ⟨[],b⟩/\qq o' (oy Z hp o w) Z' ⟨[],b⟩ w'
def T0(P:Program)(f:FuncId)(vs:List AV)(hp:List Site)(v:AV)(b:List Site):Prop:=kO P f vs hp none (.av v) b none
structure yk (R:Nat->Prop) (Z:Cz) (st:St) (w:World) (Z':Cz) (st':St) (w':World):Prop where
 M:∀ b o,Z.M b=some o->Z'.M b=some o
 f:∀ r,¬ R r->sj Z st w r->sj Z' st' w' r/\w'.heap[r]?=w.heap[r]?
 z:cO Z st Z' st'
def fq{st st2:St}{s g:Nat}(h:st2.site s=st.site s):st2.obj s g=st.obj s g:=by simp[St.obj,h]
theorem AQ{α : Type}{d : α}:∀ {l:List (Nat × α)} {s:Nat},look l s d=d\/∃ q∈l,q.1=s/\look l s d=q.2
 | [],_=>.inl rfl
 | (k,v)::r,s=>by
  simp[look];split
  .simp_all
  .obtain h|⟨q,b,f⟩:=AQ (d:=d) (l:=r) (s:=s)
   .grind
   .grind
theorem xO(ks:List Nat):∀ l:List AV,kX ks l=l.all (pK ks)
 | []=>rfl
 | v::r=>by simp[kX,xO ks r]
section
variable {P:Program} {K:Ctx} {Z Z' Z2:Cz} {st st' st1 st2:St} {w w':World} {a:Act} {ks:List Nat} {v:AV}
theorem Lx{u:AV}(h:pK ks u=true):kX ks u.cells=true:=by
 cases u with
 | p p =>
  cases p with
  | agg b=>simp[AV.cells,xO,pK]
  | _=>rfl
 | agg b=>exact h
 | _=>simp[AV.cells,kX,h]
def Lw{es:List AV}(h:kX ks es=true):kX ks (es.flatMap AV.cells)=true:=by
 simp only[xO,kR]at h ⊢;intro c b;obtain⟨e,f,b⟩:=kv.1 b;have:=Lx (h e f);rw[xO]at this
 grind
mutual
theorem aM.gN(hs:∀ s,ks.contains s=true->st2.site s=st.site s)(k:∀ b o,Z.M b=some o->Z2.M b=some o)(j:∀ s g,ks.contains s=true->Z2.B s g=Z.B s g/\Z2.cap s g=Z.cap s g):∀ {u:AV} {x:Value},aM Z st u x->pK ks u=true->aM Z2 st2 u x
 | _,_,.p u x hp,_=>.p u x (PRep.mono k hp)
 | _,_,.nil,_=>.nil
 | _,_,.dU s g o n m,h=>.dU s g o (by rw[fq (hs s h)];exact n) (by rw[(j s g h).1];exact m)
 | _,_,.own s g off len o b ad c n m i l h3 r,h=>.own s g off len o b ad c (by rw[fq (hs s h)];exact n) (by rw[(j s g h).1];exact m) (by rw[(j s g h).2];exact i) l h3 r
 | _,_,.eN s g off len ad c t hd,h=>.eN s g off len ad c (by rw[hs s h];exact t) (by rw[fq (hs s h)];exact hd)
 | _,_,.ptr s g ix off o b n m,h=>.ptr s g ix off o b (by rw[fq (hs s h)];exact n) (by rw[(j s g h).1];exact m)
 | _,_,.kK s g ix off ad t hd,h=>.kK s g ix off ad (by rw[hs s h];exact t) (by rw[fq (hs s h)];exact hd)
 | _,_,.cp u vC off b o cur T fr vals y i l h3 r z,_=>.cp u vC off b o cur T fr vals (k _ _ y) i l h3 (PReps.mono k r) z
 | _,_,.agg cs vals i l,h=>.agg cs vals i (aG.gN hs k j l h)
 | _,_,.fn f gW vals i,h=>.fn f gW vals (aG.gN hs k j i h)
 | _,_,.bP vs vals i,h=>.bP vs vals (aG.gN hs k j i h)
 | _,_,.skip,_=>.skip
 | _,_,.undef x,_=>.undef x
theorem aG.gN(hs:∀ s,ks.contains s=true->st2.site s=st.site s)(i:∀ b o,Z.M b=some o->Z2.M b=some o)(f:∀ s g,ks.contains s=true->Z2.B s g=Z.B s g/\Z2.cap s g=Z.cap s g):∀ {u:List AV} {x:List Value},aG Z st u x->kX ks u=true->aG Z2 st2 u x
 | _,_,.nil,_=>.nil
 | _,_,.cons u x us xs j k,h=>by simp only[kX,kq]at h;exact .cons _ _ _ _ (aM.gN hs i f j h.1) (aG.gN hs i f k h.2)
end
def oA.gN(hs:∀ s,ks.contains s=true->st2.site s=st.site s)(k:∀ b o,Z.M b=some o->Z2.M b=some o)(f:∀ s g,ks.contains s=true->Z2.B s g=Z.B s g/\Z2.cap s g=Z.cap s g){s g:Nat}{o:bD}(i:ks.contains s=true)(l:kX ks o.es=true)
  (h:oA Z st w s g o):oA Z2 st2 w s g o:=by
 refine⟨h.pos,h.jC,h.one,λhn=>h.xt (by rw[<- (f s g i).1];exact hn),λb j=>?_⟩;rw[(f s g i).1]at j;obtain⟨cur,T,vals,m,n,p,r,t,u⟩:=h.bU b j;rw[(f s g i).2];exact⟨cur,T,vals,m,aG.gN hs k f n (Lw l),p,r,t,u⟩
def Fa{hp:List Site}{s:Nat}(h:(hp.map (·.1)).contains s=false):look hp s []=[]:=by
 obtain b|⟨q,b,rfl,_⟩:=AQ (d:=([]:List (Option bD))) (l:=hp) (s:=s)
 .omega
 .grind
theorem BL{hp r:List Site}{s:Nat}:look (hp++r) s []=if (hp.map (·.1)).contains s=true then look hp s []else look r s []:=by
 induction hp with
 | nil=>simp
 | cons q l b =>
  obtain⟨k,x⟩:=q;simp[xq,look];by_cases h:k=s
  .grind
  .grind
def EP{hp:List Site}(h:dQ ks hp=true){s g:Nat}{o:bD}(b:(⟨[],hp⟩:St).obj s g=some o):kX ks o.es=true:=by
 obtain f|⟨q,f,_,j⟩:=AQ (d:=([]:List (Option bD))) (l:=hp) (s:=s)
 .simp[St.obj,St.site,f]at b
 .have:=kR.1 (kR.1 h q f);simp[St.obj,St.site,j]at b;cases i:q.2[g]? with
  | none=>rw[i]at b;cases b
  | some x =>
   rw[i]at b;subst b;exact this _ (wg i)
theorem G9{hp:List Site}:∀ {r:List Site},pZ st hp r->∀ q∈r,st.site q.1=look hp q.1 []
 | q::r,h,x,b=>by
  obtain rfl|b:=bY.1 b
  .exact h.1
  .exact G9 h.2 x b
theorem Pr{hp i:List Site}{o o':Option j3}{S:HV}{x:Value}(H:o'.map (·.1)=o.map (·.1))(X:i.map (·.1)=hp.map (·.1))(ad:∀ s,(hp.map (·.1)).contains s=true->st.site s=look hp s [])(bo:dQ (hp.map (·.1)) i=true)(ao:(match S with | .av v=>pK (hp.map (·.1)) v | .bx _ e _=>pK (hp.map (·.1)) e|_=>true)=true)
  (hs:bC K Z st w) (U:qq o K Z st w) (A:bC (oy Z hp o w) Z' ⟨[],i⟩ w') (E:sh S Z' ⟨[],i⟩ w w' x) (hz:cO Z ⟨[],hp⟩ Z' ⟨[],i⟩) (al:qq o' (oy Z hp o w) Z' ⟨[],i⟩ w') :
  ∃ Z2,bC K Z2 ⟨st.sl,i++st.hp⟩ w'/\sh S Z2 ⟨st.sl,i++st.hp⟩ w w' x/\cO Z st Z2 ⟨st.sl,i++st.hp⟩/\yk (yW o) Z st w Z2 ⟨st.sl,i++st.hp⟩ w'/\qq o' K Z2 ⟨st.sl,i++st.hp⟩ w':=by
 have W:∀ b,yW o b->sj Z st w b/\(K.X0 b\/K.w0.heap.size<=b)/\sj Z' ⟨[],i⟩ w' b/\yW o' b:=λb l=>by
  cases o with
  | none=>exact l.elim
  | some m =>
   cases o' with
   | none=>cases H
   | some m' =>
    have e:m'.1=m.1:=by simpa using H
    have l:b=m.1:=l;subst l;exact⟨U.1,U.2.1,by have:=al.1;rw[e]at this;exact this,e.symm⟩
 have bt:∀ b,yW o' b->yW o b:=λb l=>by
  cases o with
  | none=>cases o' with
   | none=>exact l
   | some m'=>cases H
  | some m =>
   cases o' with
   | none=>cases H
   | some m' =>
    have e:m'.1=m.1:=by simpa using H
    have l:b=m'.1:=l;show b=m.1;rw[l,e]
 generalize hK:hp.map (·.1)=ks at *
 have u:∀ s,ks.contains s=true->(⟨st.sl,i++st.hp⟩:St).site s=(⟨[],i⟩:St).site s:=λs h=>by simp only[St.site,BL,X,h,cB]
 have G:∀ s,ks.contains s=false->(⟨st.sl,i++st.hp⟩:St).site s=st.site s:=λs h=>by simp only[St.site,BL,X,h,gJ,fQ]
 have s0:∀ s,ks.contains s=true->st.site s=(⟨[],hp⟩:St).site s:=ad;have e0:∀ s,ks.contains s=false->(⟨[],hp⟩:St).site s=[]:=λs h=>Fa (by rw[hK];exact h);have e1:∀ s,ks.contains s=false->(⟨[],i⟩:St).site s=[]:=λs h=>Fa (by rw[X];exact h);have V:∀ {s g o},(⟨[],i⟩:St).obj s g=some o->ks.contains s=true:=λ{s g o} p=>by
  cases h:ks.contains s with
  | true=>rfl
  | false=>simp[St.obj,e1 s h]at p
 have o0:∀ {s g o},ks.contains s=true->st.obj s g=some o->(⟨[],hp⟩:St).obj s g=some o:=λ{s g o} h p=>by rw[fq (s0 s h)]at p;exact p
 have t:∀ b,lD Z ⟨[],hp⟩ b->∃ s g o,ks.contains s=true/\st.obj s g=some o/\Z.B s g=some b:=λb ⟨s,g,o,p,l⟩=>by
  cases h:ks.contains s with
  | true=>exact⟨s,g,o,rfl.trans h,by rw[fq (s0 s h)];exact p,l⟩
  | false=>simp[St.obj,e0 s h]at p
 let Z2:Cz:=⟨Z'.M,λs g=>if ks.contains s=true then Z'.B s g else Z.B s g,λs g=>if ks.contains s=true then Z'.cap s g else Z.cap s g⟩
 have D:∀ s g,ks.contains s=true->Z2.B s g=Z'.B s g/\Z2.cap s g=Z'.cap s g:=λs g h=>by simp only[Z2,h,cB,and_self]
 have F:∀ s g,ks.contains s=false->Z2.B s g=Z.B s g/\Z2.cap s g=Z.cap s g:=λs g h=>by simp only[Z2,h,gJ,fQ,and_self]
 have hM:∀ b o,Z.M b=some o->Z'.M b=some o:=A.m0;have ag:cO Z st Z2 ⟨st.sl,i++st.hp⟩:=by
  refine⟨hM,λs=>?_,λs g hg hd=>?_,λs g o p=>?_⟩<;>cases h:ks.contains s
  .rw[G s h];exact dK _
  .rw[u s h,s0 s h];exact hz.len s
  .rw[fq (G s h)];exact hd
  .rw[fq (u s h)];exact hz.dead s g (by rw[<- s0 s h];exact hg) (by rw[<- fq (s0 s h)];exact hd)
  .exact .inr ⟨o,by rw[fq (G s h)];exact p,rfl,rfl,(F s g h).1,(F s g h).2⟩
  .rw[fq (u s h),(D s g h).1,(D s g h).2];exact hz.live s g o (o0 h p)
 have z:∀ {s g o b},ks.contains s=false->st.obj s g=some o->Z.B s g=some b->¬ lD Z ⟨[],hp⟩ b/\b<w.heap.size:=λ{s g o b} h p l=>by refine⟨λE=>?_,hs.lt p l⟩;obtain⟨s3,g3,o3,c1,N,O⟩:=t b E;obtain⟨rfl,rfl⟩:=hs.inj _ _ _ _ _ _ b p N l O;rw[h]at c1;cases c1
 have hh:bC K Z2 ⟨st.sl,i++st.hp⟩ w':=by
  have C:=A.keep;refine⟨λs g o p=>?_,λs g s' g' o o' b j J k L=>?_,A.mem,λs g o b j k=>?_,λs g o b j k=>?_,λb o l=>hM b o (hs.m0 b o l),λb o l=>?_,?_⟩
  .cases h:ks.contains s with
   | true =>
    rw[fq (u s h)]at p;exact oA.gN (Z:=Z') (Z2:=Z2) u (λ_ _ h=>h) D h (EP bo p) (A.bR s g o p)
   | false =>
    rw[fq (G s h)]at p;exact(hs.bR s g o p).later ag (F s g h).1 (F s g h).2 λb l=>C.bU b (z h p l).2 (λc=>c.elim (z h p l).1 λc=>(W b c).1.o _ _ _ p l)
  .cases h:ks.contains s<;>cases Q:ks.contains s'
   .rw[fq (G _ h)]at j;rw[fq (G _ Q)]at J;rw[(F _ _ h).1]at k;rw[(F _ _ Q).1]at L;exact hs.inj _ _ _ _ _ _ b j J k L
   .rw[fq (G _ h)]at j;rw[fq (u _ Q)]at J;rw[(F _ _ h).1]at k;rw[(D _ _ Q).1]at L;have f:=z h j k;obtain(c|c)|c:=A.own _ _ _ b J L
    .exact absurd c f.1
    .exact absurd L ((W b c).2.2.1.o _ _ _ J)
    .have I:w.heap.size<=b:=c;omega
   .rw[fq (u _ h)]at j;rw[fq (G _ Q)]at J;rw[(D _ _ h).1]at k;rw[(F _ _ Q).1]at L;have f:=z Q J L;obtain(c|c)|c:=A.own _ _ _ b j k
    .exact absurd c f.1
    .exact absurd k ((W b c).2.2.1.o _ _ _ j)
    .have I:w.heap.size<=b:=c;omega
   .rw[fq (u _ h)]at j;rw[fq (u _ Q)]at J;rw[(D _ _ h).1]at k;rw[(D _ _ Q).1]at L;exact A.inj _ _ _ _ _ _ b j J k L
  .cases h:ks.contains s
   .rw[fq (G _ h)]at j;rw[(F _ _ h).1]at k;have f:=z h j k;cases U:Z'.M b with
    | none=>rfl
    | some y =>
     exfalso;obtain c|(c|c)|c:=A.eE b y U
     .have I:Z.M b=some y:=c;rw[hs.sep _ _ _ b j k]at I;cases I
     .exact f.1 c
     .rw[(W b c).2.2.1.m]at U;cases U
     .have I:w.heap.size<=b:=c;omega
   .rw[fq (u _ h)]at j;rw[(D _ _ h).1]at k;exact A.sep _ _ _ b j k
  .have bu:∀ b,lD Z ⟨[],hp⟩ b->K.X0 b\/K.w0.heap.size<=b:=λb E=>by obtain⟨s3,g3,o3,_,N,O⟩:=t b E;exact hs.own _ _ _ b N O
   cases h:ks.contains s
   .rw[fq (G _ h)]at j;rw[(F _ _ h).1]at k;exact hs.own _ _ _ b j k
   .rw[fq (u _ h)]at j;rw[(D _ _ h).1]at k;obtain(c|c)|c:=A.own _ _ _ b j k
    .exact bu b c
    .exact absurd k ((W b c).2.2.1.o _ _ _ j)
    .exact .inr (dP hs.keep.size c)
  .obtain c|(c|c)|c:=A.eE b o l
   .exact hs.eE b o c
   .obtain⟨s3,g3,o3,_,N,O⟩:=t b c;exact .inr (hs.own _ _ _ b N O)
   .rw[(W b c).2.2.1.m]at l;cases l
   .exact .inr (.inr (dP hs.keep.size c))
  .have V:=hs.keep;refine⟨C.os.trans V.os,C.tape.trans V.tape,C.output.trans V.output,dP V.drawn C.drawn,dP V.size C.size,λb l E=>?_⟩;rw[C.bU b (iC l V.size) (λh=>?_),V.bU b l E];have br:K.X0 b\/K.w0.heap.size<=b:=by
    obtain h|h:=h
    .obtain⟨s3,g3,o3,_,N,O⟩:=t b h;exact hs.own _ _ _ b N O
    .exact(W b h).2.1
   obtain c|c:=br
   .exact E c
   .omega
 have hf:∀ r,sj Z st w r->(∀ s g o,(⟨[],i⟩:St).obj s g=some o->Z'.B s g≠some r)->Z'.M r=none->sj Z2 ⟨st.sl,i++st.hp⟩ w' r:=λr R h1 h2=>by
  refine⟨h2,λs g o j k=>?_,iC R.lt A.keep.size⟩;cases h:ks.contains s
  .rw[fq (G _ h)]at j;rw[(F _ _ h).1]at k;exact R.o _ _ _ j k
  .rw[fq (u _ h)]at j;rw[(D _ _ h).1]at k;exact h1 _ _ _ j k
 refine⟨Z2,hh,?_,ag,⟨hM,λr hR R=>?_,ag⟩,?_⟩
 .cases S with
  | av v=>exact aM.gN (Z:=Z') (Z2:=Z2) u (λ_ _ h=>h) D E ao
  | fr sz es =>
   refine⟨E.1,λb n c af s g o j k=>?_⟩;cases h:ks.contains s
   .rw[fq (G _ h)]at j;rw[(F _ _ h).1]at k;have f:=z h j k;obtain⟨_,h0⟩|⟨b',_,_,_,_,h0,h1,_⟩:=E.1
    .rw[af]at h0;cases h0
    .rw[af]at h0;cases h0;omega
   .rw[fq (u _ h)]at j;rw[(D _ _ h).1]at k;exact E.2 b n c af s g o j k
  | bx sz e us =>
   obtain⟨b,aq,au,T,ap,ys,h1,h2,h3,h4,h5,h6,h7,h8,bb,h9,aw⟩:=E;refine⟨b,aq,au,T,ap,ys,h1,h2,h3,h4,h5,aG.gN (Z:=Z') (Z2:=Z2) u (λ_ _ h=>h) D h6 (Lx ao),h7,h8,bb,h9,λs g o j k=>?_⟩;cases h:ks.contains s
   .rw[fq (G _ h)]at j;rw[(F _ _ h).1]at k;have f:=z h j k;omega
   .rw[fq (u _ h)]at j;rw[(D _ _ h).1]at k;exact aw s g o j k
 .have Y:¬ lD Z ⟨[],hp⟩ r:=λE=>by obtain⟨s3,g3,o3,_,N,O⟩:=t r E;exact R.o _ _ _ N O
  refine⟨hf r R (λs g o j k=>?_) ?_,A.keep.bU r R.lt λc=>c.elim Y hR⟩
  .obtain(c|c)|c:=A.own _ _ _ r j k
   .exact Y c
   .exact hR c
   .have I:w.heap.size<=r:=c;have:=R.lt;omega
  .cases U:Z'.M r with
   | none=>rfl
   | some y =>
    exfalso;obtain c|(c|c)|c:=A.eE r y U
    .have I:Z.M r=some y:=c;rw[R.m]at I;cases I
    .exact Y c
    .exact hR c
    .have I:w.heap.size<=r:=c;have:=R.lt;omega
 .cases bk:o' with
  | none=>trivial
  | some m' =>
   subst bk;obtain⟨g1,g2,g3⟩:=W m'.1 (bt _ rfl);obtain⟨m1,m2,m3⟩:=al;exact⟨hf _ g1 m1.o m1.m,g2,m3⟩
theorem Ot{hp:List Site}{o:Option j3}(f:∀ s,(hp.map (·.1)).contains s=true->st.site s=look hp s [])(u:dQ (hp.map (·.1)) hp=true)(hs:bC K Z st w)(l:qq o K Z st w):bC (oy Z hp o w) Z ⟨[],hp⟩ w/\qq o (oy Z hp o w) Z ⟨[],hp⟩ w:=by
 have n:∀ {s g o},(⟨[],hp⟩:St).obj s g=some o->(hp.map (·.1)).contains s=true:=λ{s g o} i=>by
  cases h:(hp.map (·.1)).contains s with
  | true=>rfl
  | false=>simp[St.obj,St.site,Fa h]at i
 have k:∀ {s g o},(⟨[],hp⟩:St).obj s g=some o->st.obj s g=some o:=λ{s g o} i=>by rw[fq (st2:=st) (st:=⟨[],hp⟩) (f s (n i))];exact i
 refine⟨⟨λs g o i=>oA.gN (st:=st) (st2:=⟨[],hp⟩) (Z2:=Z) (λs h=>(f s h).symm) (λ_ _ h=>h) (λ_ _ _=>⟨rfl,rfl⟩) (n i) (EP u i) (hs.bR s g o (k i)),λs g y t o x b j p=>hs.inj s g y t o x b (k j) (k p),hs.mem,λs g o b j=>hs.sep s g o b (k j),
  λs g o b j r=>.inl (.inl ⟨s,g,o,j,r⟩),λ_ _ h=>h,λ_ _ h=>.inl h,⟨rfl,rfl,rfl,dK _,dK _,λ_ _ _=>rfl⟩⟩,?_⟩
 cases o with
 | none=>trivial
 | some m=>exact⟨⟨l.1.m,λs g o j=>l.1.o s g o (k j),l.1.lt⟩,.inl (.inr rfl),l.2.2⟩
theorem sh.take{res:HV}{dd:Nat}{x:Value}{o:Option j3}{w0:World}(hs:bC K Z st w)(h:sh res Z st w0 w x)(z:vQ ks res=true)(J:K.w0.heap.size<=w0.heap.size)(hm:qq o K Z st w)(y:∀ b,yW o b->b<w0.heap.size) :
  ∃ Z2 v st2,sM res st dd=(v,st2)/\bC K Z2 st2 w/\aM Z2 st2 v x/\st2.sl=st.sl/\cO Z st Z2 st2/\(∀ r,r<w0.heap.size->sj Z st w r->sj Z2 st2 w r)/\qq o K Z2 st2 w:=by
 have mk:∀ {Z2:Cz} {A:Option Nat} {c:Nat} {u:AV} {ob:bD},Z2=Z.bO dd (st.site dd).length A c->(∀ b,A=some b->w0.heap.size<=b)->sM res st dd=(u,st.alloc dd ob)->bC K Z2 (st.alloc dd ob) w->aM Z2 (st.alloc dd ob) u x ->
    ∃ Z2 v st2,sM res st dd=(v,st2)/\bC K Z2 st2 w/\aM Z2 st2 v x/\st2.sl=st.sl/\cO Z st Z2 st2/\(∀ r,r<w0.heap.size->sj Z st w r->sj Z2 st2 w r)/\qq o K Z2 st2 w:=by
  rintro Z2 A c u ob rfl k l Q E;have L:∀ r,r<w0.heap.size->sj Z st w r->sj (Z.bO dd (st.site dd).length A c) (st.alloc dd ob) w r:=λr z F=>by
   refine⟨F.m,λs g o a1 C=>?_,F.lt⟩;rw[kY]at a1;simp only[Cz.bO]at C;by_cases B:s=dd/\g=(st.site dd).length
   .grind
   .rw[aY B]at a1 C;exact F.o _ _ _ a1 C
  refine⟨_,_,_,l,Q,E,rfl,cO.alloc _ _ _ _ _ _,L,?_⟩;cases o with
  | none=>trivial
  | some m=>exact⟨L _ (y _ rfl) hm.1,hm.2⟩
 cases res with
 | av v=>exact⟨Z,v,st,rfl,hs,h,rfl,cO.refl Z st,λ_ _ h=>h,hm⟩
 | bx sz e us =>
  simp only[vQ,kq,decide_eq_true_eq,beq_iff_eq]at z;obtain⟨⟨j,hp⟩,_⟩:=z;obtain⟨b,cap,cur,T,vals,ys,rfl,E,h3,R,S,U,V,W,n,X,D⟩:=h
  have f:=hs.yj dd ⟨sz,[e]⟩ b cur T cap vals S R (λs g o H=>D s g o H) (.inr (dP J h3)) hp (λx B=>by rw[jF]at B;subst B;exact j)
    (λq hq=>X q (by simpa using hq)) (by simpa using U) V W (by simpa using n.1) n.2
  refine mk (u:=.bP (.ptr dd (st.site dd).length 0 0::us.map .p)) (ob:=⟨sz,[e]⟩) rfl (λO k=>by cases k;exact h3) rfl f (.bP _ _ (.cons _ _ _ _ ?_ (aG.lS E)));have:=aM.ptr (Z:=Z.bO dd (st.site dd).length (some b) cap) (st:=st.alloc dd ⟨sz,[e]⟩) dd (st.site dd).length 0 0 ⟨sz,[e]⟩ b (by rw[kY,if_pos ⟨rfl,rfl⟩]) (by simp[Cz.bO]);simpa using this
 | fr sz es =>
  simp only[vQ,Bool.and_eq_true,decide_eq_true_eq]at z;obtain⟨t,hp⟩:=z;have j:∀ e∈es,e.sz=sz:=λe l=>by simpa using List.all_eq_true.1 t e l
  obtain⟨I,G⟩:=h;obtain⟨rfl,rfl⟩|⟨b,cap,cur,T,vals,rfl,M,Y,r3,r4,r5,r6,N,r8,r9⟩:=I
  .exact mk (u:=.own dd (st.site dd).length 0 0) (ob:=⟨sz,[]⟩) rfl (λb k=>(by cases k)) rfl (hs.iM dd sz hp) (.dU dd _ ⟨sz,[]⟩ (by rw[kY,aW ⟨rfl,rfl⟩]) (by simp[Cz.bO]))
  .have i:aG Z st ((es.map AV.p).flatMap AV.cells) vals:=by rw[qT];exact aG.lS r4
   have f:=hs.yj dd ⟨sz,es.map .p⟩ b cur T cap vals r3 Y (λs g o H=>G b _ _ rfl s g o H) (.inr (dP J M)) hp
     (λe l=>by simp at l;obtain⟨q,hq,rfl⟩:=l;exact j q hq)
     (λq hq=>by rw[qT]at hq;simp only[cD]at hq;obtain⟨u,hu,rfl⟩:=hq;exact r9 u hu)
     i r5 r6 (by simpa using N) r8
   exact mk (u:=.own dd (st.site dd).length 0 es.length) (ob:=⟨sz,es.map .p⟩) rfl (λO k=>by cases k;exact M) rfl f (.own dd _ 0 es.length ⟨sz,es.map .p⟩ b _ cap (by rw[kY,aW ⟨rfl,rfl⟩]) (by simp[Cz.bO]) (λ_=>⟨rfl,by simp[Cz.bO]⟩) (λ_=>by simp) (by simp) N)
end
end Go.Ab
