/- Lemmas for the law ComposeBuildsMadeModels, part 35. No conditions. -/
import Derived.Test.YthhdboljpgdcpaaGreatDoorAP34
set_option maxRecDepth 100000
set_option maxHeartbeats 4000000
set_option linter.all false
namespace Go.Ab
section
variable (r:aB)
def lP(ws:List GW):GW:=ws.foldr r.plus r.zero
variable {r} (hr:r.ok=true)
include hr in
theorem Dc:∀ {ws:List GW},(∀ w∈ws,w.aQ r)->(lP r ws).aQ r
 | [],_=>xj hr
 | w::ws,h=>EZ (h w (by simp)) (Dc λx a=>h x (by simp[a]))
include hr in
theorem K9{v:GW}(a:v.aQ r):r.plus r.zero v=v:=by rw[Hp (xj hr) a];exact AZ a
include hr in
theorem Qz:∀ {a b:List GW},(∀ w∈a,w.aQ r)->(∀ w∈b,w.aQ r)->lP r (a++b)=r.plus (lP r a) (lP r b)
 | [],b,_,d=>(K9 hr (Dc hr d)).symm
 | w::a,b,f,d=>by show r.plus w (lP r (a++b))=r.plus (r.plus w (lP r a)) (lP r b);rw[Qz (λx h=>f x (by simp[h])) d,Dx (f w (by simp)) (Dc hr λx h=>f x (by simp[h])) (Dc hr d)]
include hr in
theorem Xe{a b:List GW}(h:a.Perm b)(d:∀ w∈a,w.aQ r):lP r a=lP r b:=by
 induction h with
 | nil=>rfl
 | cons x h o=>show r.plus x _=r.plus x _;rw[show List.foldr r.plus r.zero _=_ from o λw hw=>d w (by simp[hw])];rfl
 | swap x y l =>
  have f:=d x (by simp);have i:=d y (by simp);have m:(lP r l).aQ r:=Dc hr λw hw=>d w (by simp[hw]);show r.plus y (r.plus x (lP r l))=r.plus x (r.plus y (lP r l));rw[<- Dx i f m,Hp i f,Dx f i m]
 | trans n p j k=>rw[j d,k λw hw=>d w (n.mem_iff.2 hw)]
end
section
variable {α : Type} (key : α -> List Int) (wt : α -> GW) (r:aB)
def mF(l:List α)(p:List Int->Bool):GW:=lP r ((l.filter λx=>p (key x)).map wt)
variable {key wt r} {up : α -> α -> α} (hr:r.ok=true) (hk:∀ z y,key (up z y)=key z) (hw:∀ z y,wt (up z y)=r.plus (wt z) (wt y))
theorem Ra(p:List Int->Bool):mF key wt r [] p=r.zero:=rfl
def xH(x : α)(l:List α)(p:List Int->Bool):mF key wt r (x::l) p=if p (key x)=true then r.plus (wt x) (mF key wt r l p)else mF key wt r l p:=by unfold mF;by_cases h:p (key x)=true<;>simp[h,lP]
include hr in
theorem Jc{l:List α}(h:∀ x∈l,(wt x).aQ r)(p:List Int->Bool):(mF key wt r l p).aQ r:=Dc hr λw hw=>by obtain⟨x,a,rfl⟩:=cD.1 hw;exact h x (k8.1 a).1
include hr in
theorem Xj{a b:List α}(f:∀ x∈a,(wt x).aQ r)(h:∀ x∈b,(wt x).aQ r)(p:List Int->Bool):mF key wt r (a++b) p=r.plus (mF key wt r a p) (mF key wt r b p):=by unfold mF;rw[v7,qY];exact Qz hr (λw hw=>by obtain⟨x,d,rfl⟩:=cD.1 hw;exact f x (k8.1 d).1) (λw hw=>by obtain⟨x,d,rfl⟩:=cD.1 hw;exact h x (k8.1 d).1)
include hr in
theorem yb6{a b:List α}(h:a.Perm b)(d:∀ x∈a,(wt x).aQ r)(p:List Int->Bool):mF key wt r a p=mF key wt r b p :=
 Xe hr ((h.filter _).map _) λw hw=>by obtain⟨x,f,rfl⟩:=cD.1 hw;exact d x (k8.1 f).1
include hr hk hw in
theorem SH{x : α}(a:(wt x).aQ r)(p:List Int->Bool):∀ {b:List α},(∀ z∈b,(wt z).aQ r)->mF key wt r (eQ key up id b x) p=r.plus (mF key wt r b p) (if p (key x)=true then wt x else r.zero)
 | [],_=>by
  show mF key wt r [x] p=_;rw[xH,Ra,K9 hr (by split;exact a;exact xj hr)];split
  .exact AZ a
  .rfl
 | z::o,h=>by
  have i:=h z (by simp);have l:∀ y∈o,(wt y).aQ r:=λy n=>h y (by simp[n]);have f:=Jc (key:=key) hr l p;have m:(if p (key x)=true then wt x else r.zero).aQ r:=by split;exact a;exact xj hr
  simp only[eQ];split
  .rw[xH,xH,SH a p l];split
   .rw[Dx i f m]
   .rfl
  .split
   .rename_i s k;rw[xH,xH,hk,hw];by_cases d:p (key z)=true
    .rw[aW d,aW d,aW (k ▸ d),Dx i a f,Dx i f a,Hp a f]
    .rw[aY d,aY d,aY (k ▸ d),AZ f]
   .show mF key wt r (x::z::o) p=_;rw[xH x];have j:=Jc (key:=key) hr h p;split
    .exact Hp a j
    .exact(AZ j).symm
include hr hk hw in
theorem Q'{l:List α}(h:∀ x∈l,(wt x).aQ r)(p:List Int->Bool):∀ n,n<=l.length->(∀ z∈sc key up id (l.take n),(wt z).aQ r)/\mF key wt r (sc key up id (l.take n)) p=mF key wt r (l.take n) p
 | 0,_=>⟨by simp[sc],rfl⟩
 | n+1,m=>by
  obtain⟨f,k⟩:=Q' h p n (by omega);have d:n<l.length:=by omega
  have a:=h _ (bV d);rw[HK d];refine⟨λz j=>?_,?_⟩
  .obtain b|b|⟨y,b,i⟩:=Sx j
   .exact f z b
   .rw[b];exact a
   .rw[i,hw];exact EZ (f y b) a
  .rw[SH hr hk hw a p f,k,ed d,Xj hr (λx a=>h x (jA a)) (λx a=>by simp at a;rw[a];exact h _ (bV d)),xH,Ra]
   congr 1
   split
   .exact(AZ a).symm
   .rfl
end
open Enc (enc)
def inT(x:aC)(t:GTrans):Prop:=0<=x.f/\x.f<t.st/\0<=x.t/\x.t<t.st/\0<=x.i/\x.i<=t.i/\0<=x.o/\x.o<=t.o/\x.w.aQ t.ring
structure GTrans.ok (t:GTrans):Prop where
 ring:t.ring.ok=true
 i1:1<=t.i/\t.i<=32
 o1:1<=t.o/\t.o<=32
 st1:0<=t.st
 st2:t.st<=64
 il:(t.aU.length:Int)=t.st
 fl:(t.fin.length:Int)=t.st
 al:t.aE.length<=2048
 aE:∀ x∈t.aE,inT x t
 aU:∀ w∈t.aU,w.aQ t.ring
 fin:∀ w∈t.fin,w.aQ t.ring
noncomputable instance (x:aC) (a:GTrans):Decidable (inT x a):=Classical.propDecidable _
noncomputable instance (a:GTrans):Decidable a.ok:=Classical.propDecidable _
structure GTrans.sm (a:GTrans) (n:Nat):Prop where
 aU:∀ w∈a.aU,w.sm n
 fin:∀ w∈a.fin,w.sm n
 aE:∀ x∈a.aE,x.w.sm n
def GTrans.sm.mono{a:GTrans}{m n:Nat}(h:a.sm m)(k:m<=n):a.sm n:=⟨λw hw=>(h.aU w hw).mono k,λw hw=>(h.fin w hw).mono k,λx b=>(h.aE x b).mono k⟩
def Pe(t:GTrans)(h:t.sm 1048576)(li:t.aU.length<=1000000)(lf:t.fin.length<=1000000):zS 47 [enc t] (.bool (decide t.ok)):=by
 refine Sp.vz c.kn λ_=>?_;simp[g.kn];refine bF (BS t.ring) rfl ?_;cases hr:t.ring.ok
 .simp;intro ok;rw[ok.ring]at hr;cases hr
 simp;refine bF (Qv t.i) rfl ?_;by_cases F:1<=t.i/\t.i<=32;rotate_left
 .simp[F];intro ok;exact F ok.i1
 simp[F];refine bF (Qv t.o) rfl ?_;by_cases G:1<=t.o/\t.o<=32;rotate_left
 .simp[G];intro ok;exact G ok.o1
 simp[G];refine⟨λL ok=>by have:=ok.st1;omega,λL=>⟨λM ok=>by have:=ok.st2;omega,λM=>⟨λh5 ok=>by have:=ok.al;omega,λh5=>?_⟩⟩⟩
 refine cQ (S:=λk:Nat=>aD [(1,.ptr 1 0 0 0),(38,.p (.sl (aH t.aE))),(39,.p (.int .i64 t.aE.length)),(40,.p (.int .i64 k))] [(1,⟨8,[.p (enc t)]⟩)]) (I:=λk=>k<=t.aE.length/\∀ i,(D:i<t.aE.length)->i<k->inT t.aE[i] t) (m:=λk=>t.aE.length - k) 0
  (aA.to [1,38,39,40] [((1,0),1)] (by simp)) ⟨by omega,λi _ h0=>by omega⟩ ?_
 rintro k ⟨h6,N⟩ R hn b E;have e1:=bH k;simp[g.s8,aD];refine⟨λhk=>?_,λhk=>E _ _ ?_⟩
 .refine bK hk ?_;have a:¬ inT t.aE[k] t->¬ t.ok:=λh ok=>h (ok.aE _ (bV hk));have K:t.aE[k].w.sm 1048576:=h.aE _ (bV hk);have s:inT t.aE[k] t->∀ i,(D:i<t.aE.length)->i<k+1->inT t.aE[i] t:=λE i D h0=>by
   by_cases J:i<k
   .exact N i D J
   .have:i=k:=by omega
    subst this;exact E
  generalize t.aE[k]=x at *
  refine⟨λd=>b _ ?_,λd=>⟨λj=>b _ ?_,λj=>⟨λu=>b _ ?_,λu=>⟨λA=>b _ ?_,λA=>?_⟩⟩⟩⟩
  .simp;refine a λn=>?_;obtain⟨O,Q,U,V,W,X,Y,Z,a9⟩:=n;revert d;(repeat' split)<;>omega
  .simp;refine a λn=>?_;obtain⟨O,Q,U,V,W,X,Y,Z,a9⟩:=n;revert j;(repeat' split)<;>omega
  .simp;exact a λn=>by have:=n.2.2.2.2.2.1;omega
  .simp;exact a λn=>by have:=n.2.2.2.2.2.2.2.1;omega
  have l:0<=x.f/\0<=x.t/\0<=x.i/\0<=x.o:=by revert d;(repeat' split)<;>intro d<;>omega
  have B:x.f<t.st/\x.t<t.st:=by revert j;(repeat' split)<;>intro j<;>omega
  refine bA (KH t.ring x.w K) ?_;by_cases H:x.w.aQ t.ring;rotate_left
  .simp[H];refine b _ ?_;simp;exact a λn=>H n.2.2.2.2.2.2.2.2
  simp[H,e1];exact hn (k+1) _ (aA.to [1,38,39,40] [((1,0),1)] (by simp[aD])) ⟨by omega,s ⟨l.1,B.1,l.2.1,B.2,l.2.2.1,u,l.2.2.2,A,H⟩⟩ (by omega)
 .simp;have C:∀ x∈t.aE,inT x t:=λx E=>by obtain⟨i,D,rfl⟩:=sQ.1 E;exact N i D (by omega)
  refine bA (Qy t.ring t.aU t.st h.aU (by omega)) ?_;by_cases d:(t.aU.length:Int)=t.st/\∀ w∈t.aU,w.aQ t.ring;rotate_left
  .rw[decide_eq_false d];simp;intro ok;exact d ⟨ok.il,ok.aU⟩
  rw[decide_eq_true d];simp;refine bA (Qy t.ring t.fin t.st h.fin (by omega)) ?_;by_cases j:(t.fin.length:Int)=t.st/\∀ w∈t.fin,w.aQ t.ring;rotate_left
  .have:¬ t.ok:=λok=>j ⟨ok.fl,ok.fin⟩;rw[decide_eq_false j,decide_eq_false this];simp
  have ok:t.ok:=⟨hr,F,G,L,M,d.1,j.1,by omega,C,d.2,j.2⟩;rw[decide_eq_true j,decide_eq_true ok];simp
def iO:GTrans:=⟨⟨0,[]⟩,0,0,0,[],[],[]⟩
noncomputable def GTrans.nf(a:GTrans):GTrans:=⟨a.ring,a.i,a.o,a.st,a.aU,a.fin,cR a.ring a.aE⟩
def swT(x:aC):aC:=⟨x.f,x.o,x.i,x.t,x.w⟩
section
variable {α : Type} {key : α -> List Int} {wt : α -> GW} {r:aB} {up : α -> α -> α} (hr:r.ok=true) (hk:∀ z y,key (up z y)=key z) (hw:∀ z y,wt (up z y)=r.plus (wt z) (wt y))
def yi(key : α -> List Int)(wt : α -> GW)(r:aB)(l:List α)(k:List Int):GW:=mF key wt r l λx=>decide (x=k)
theorem Jb{L:List α}{k:List Int}(h:∀ x∈L,key x≠k):yi key wt r L k=r.zero:=by unfold yi mF;rw[List.filter_eq_nil_iff.2 λx a=>by simpa using h x a];rfl
theorem Ja{L:List α}(s:eI key L)(c:∀ x∈L,(wt x).aQ r){x : α}(j:x∈L):yi key wt r L (key x)=wt x:=by
 induction L with
 | nil=>cases j
 | cons z t k =>
  have i:=mM.1 s;unfold yi;rw[xH];simp only[decide_eq_true_eq];obtain rfl|b:=bY.1 j
  .rw[aW rfl,show mF key wt r t (λa=>decide (a=key x))=r.zero from Jb (wt:=wt) (r:=r) λy f h=>by have:=i.1 y f;rw[h]at this;exact pN _ this];exact AZ (c x (by simp))
  .have d:¬ key z=key x:=λh=>by have:=i.1 x b;rw[h]at this;exact pN _ this
   rw[aY d];exact k i.2 (λy f=>c y (by simp[f])) b
theorem R7:∀ {L b:List α},eI key L->eI key b->(∀ x,x∈L ↔ x∈b)->L=b
 | [],[],_,_,_=>rfl
 | [],y::t,_,_,h=>by have:=(h y).2 (by simp);cases this
 | x::t,[],_,_,h=>by have:=(h x).1 (by simp);cases this
 | x::t,y::m,s,l,h=>by
  have p:=mM.1 s;have i:=mM.1 l;have d:x=y:=by
   obtain e|j:=bY.1 ((h x).1 (by simp))
   .exact e
   .obtain e|k:=bY.1 ((h y).2 (by simp))
    .exact e.symm
    .exact absurd (i.1 x j) (List.lt_asymm (p.1 y k))
  subst d
  congr 1
  refine R7 p.2 i.2 λz=>⟨λa=>?_,λa=>?_⟩
  .obtain e|f:=bY.1 ((h z).1 (by simp[a]))
   .have:=p.1 z a;rw[e]at this;exact absurd this (pN _)
   .exact f
  .obtain e|f:=bY.1 ((h z).2 (by simp[a]))
   .have:=i.1 z a;rw[e]at this;exact absurd this (pN _)
   .exact f
def ybb(ext:∀ x y,key x=key y->wt x=wt y->x=y){L a:List α}(s:eI key L)(b:eI key a)(c:∀ x∈L,(wt x).aQ r)(d:∀ x∈a,(wt x).aQ r)(n:∀ x∈L,wt x≠r.zero)(o:∀ x∈a,wt x≠r.zero)(h:∀ k,yi key wt r L k=yi key wt r a k):L=a:=by
 have one:∀ {L a:List α},eI key L->eI key a->(∀ x∈L,(wt x).aQ r)->(∀ x∈a,(wt x).aQ r)->(∀ x∈L,wt x≠r.zero)->(∀ k,yi key wt r L k=yi key wt r a k)->∀ x∈L,x∈a:=by
  intro L a s b c d n h x m;have f:=h (key x);rw[Ja s c m]at f;by_cases l:∃ y∈a,key y=key x
  .obtain⟨y,i,e⟩:=l;have j:=Ja b d i;rw[e,<- f]at j;rw[ext x y e.symm j];exact i
  .rw[Jb (wt:=wt) (r:=r) λy i e=>l ⟨y,i,e⟩]at f;exact absurd f (n x m)
 exact R7 s b λx=>⟨one s b c d n h x,one b s d c o (λk=>(h k).symm) x⟩
include hr in
theorem Xk{l:List α}(h:∀ x∈l,(wt x).aQ r)(p:List Int->Bool):mF key wt r (l.filter λx=>!decide (wt x=r.zero)) p=mF key wt r l p:=by
 induction l with
 | nil=>rfl
 | cons x l f =>
  have a:=f λy b=>h y (by simp[b]);by_cases d:wt x=r.zero
  .rw[List.filter_cons_of_neg (by simp[d]),a,xH];split
   .rw[d,K9 hr (Jc hr (λy b=>h y (by simp[b])) p)]
   .rfl
  .rw[List.filter_cons_of_pos (by simp[d]),xH,xH,a]
noncomputable def tid(key : α -> List Int)(wt : α -> GW)(r:aB)(up : α -> α -> α)(l:List α):List α := (fN key up id (b6 key l)).filter λx=>!decide (wt x=r.zero)
include hr hk hw in
theorem GV{l:List α}(h:∀ x∈l,(wt x).aQ r):eI key (tid key wt r up l)/\(∀ x∈tid key wt r up l,(wt x).aQ r/\wt x≠r.zero)/\∀ p,mF key wt r (tid key wt r up l) p=mF key wt r l p:=by
 have b:=(Rv (key:=key) (up:=up) (nw:=id) hk (λ_=>rfl) l);have d:=(Dt (key:=key) (up:=up) (nw:=id) hk (λ_=>rfl) _ (b6 key l) rfl b.2).1;have a:=λp=>Q' (key:=key) (up:=up) hr hk hw h p l.length (dK _);rw[lO]at a;have e:fN key up id (b6 key l)=sc key up id l:=b.1;unfold tid;refine⟨List.Pairwise.filter _ d,λx f=>?_,λp=>?_⟩
 .have:=List.mem_filter.1 f;rw[e]at this;exact⟨(a λ_=>true).1 x this.1,by simpa using this.2⟩
 .rw[e,Xk hr (a p).1,(a p).2]
include hr hk hw in
theorem ydh(ext:∀ x y,key x=key y->wt x=wt y->x=y){l b:List α}(h:∀ x∈l,(wt x).aQ r)(o:∀ x∈b,(wt x).aQ r)(s:∀ p,mF key wt r l p=mF key wt r b p):tid key wt r up l=tid key wt r up b:=by obtain⟨i,d,j⟩:=GV (up:=up) hr hk hw h;obtain⟨m,f,n⟩:=GV (up:=up) hr hk hw o;exact ybb ext i m (λx a=>(d x a).1) (λx a=>(f x a).1) (λx a=>(d x a).2) (λx a=>(f x a).2) λk=>by unfold yi;rw[j,n,s]
end
def ye(v w:List Int):Int:=if v.length≠w.length then(if v.length<w.length then -1 else 1)else fU v w
theorem Wx{v w:List Int}{k:Nat}(h:k<v.length)(a:k<w.length):fU (v.drop k) (w.drop k)=if v[k]<w[k]then -1 else if w[k]<v[k]then 1 else fU (v.drop (k+1)) (w.drop (k+1)):=by rw[vw h,vw a];rfl
def T4(v w:List Int)(A:v.length<=1000000000):zS 88 [.sl (aH v),.sl (aH w)] (.int .i64 (ye v w)):=by
 refine Sp.vz c.io λ_=>?_;by_cases a:v.length=w.length;rotate_left
 .have t:¬ (v.length:Int)=w.length:=by omega
  simp[g.io,a,ye];by_cases h:v.length<w.length
  .simp[h];intro s;omega
  .simp[h];intro s;omega
 have n:ye v w=fU v w:=by simp[ye,a]
 rw[n];simp[g.io,a]
 refine cQ (S:=λk:Nat=>aD [(0,.p (.sl (aH v))),(1,.p (.sl (aH w))),(5,.p (.int .i64 k))] []) (I:=λk=>k<=v.length/\fU v w=fU (v.drop k) (w.drop k)) (m:=λk=>v.length - k) 0
  (aA.to [0,1,5] [] (by simp)) ⟨by omega,by simp⟩ ?_
 rintro k ⟨x,f⟩ R i hr u;have o:=bH k;by_cases hk:k<v.length
 .have b:k<w.length:=by omega
  have d:=Wx hk b;simp[g.rn,aD,hk];refine bK hk ?_;refine bK b ?_;refine⟨λj=>hr _ ?_,λj=>?_⟩
  .rw[aW j]at d;simp[f,d]
  refine bK hk ?_;refine bK b ?_;refine⟨λl=>hr _ ?_,λl=>?_⟩
  .rw[aY (by omega),aW l]at d;simp[f,d]
  .rw[aY (by omega),aY (by omega)]at d;rw[o];exact i (k+1) _ (aA.to [0,1,5] [] (by simp[aD])) ⟨by omega,by rw[f,d]⟩ (by omega)
 .simp[g.rn,aD,hk];refine u _ _ ?_;have:fU v w=0:=by rw[f,DO (by omega)];rfl
  simp[this]
def QD(m:Int):zS 105 [.int .i64 m] (.bool (decide (1<=m/\m<=32))):=by refine Sp.vz c.l7 λ_=>?_;simp[g.l7];exact⟨λh _=>h,λh a=>by omega⟩
def El(v b a:Int):zS 106 [.int .i64 v,.int .i64 b,.int .i64 a] (.bool (decide (b<=v/\v<=a))):=by refine Sp.vz c.ch λ_=>?_;simp[g.ch];exact⟨λh _=>h,λh d=>by omega⟩
def Qx(r:aB)(l:List GW)(m:Int)(A:∀ w∈l,w.sm 1048576)(s:l.length<=1000000000):zS 107 [enc r,.sl (aH l),.int .i64 m] (.bool (decide ((l.length:Int)=m/\∀ w∈l,w.aQ r))):=by
 refine Sp.vz c.ir λ_=>?_;by_cases t:(l.length:Int)=m;rotate_left
 .simp[g.ir,t]
 subst t;simp[g.ir]
 refine cQ (S:=λk:Nat=>aD [(1,.p (.sl (aH l))),(2,.p (.int .i64 l.length)),(3,.ptr 1 0 0 0),(7,.p (.int .i64 k))] [(1,⟨2,[.p (enc r)]⟩)]) (I:=λk=>k<=l.length/\∀ i,(d:i<l.length)->i<k->l[i].aQ r) (m:=λk=>l.length - k) 0
  (aA.to [1,2,3,7] [((3,0),1)] (by simp)) ⟨by omega,λi _ h=>by omega⟩ ?_
 rintro k ⟨C,o⟩ R j hr n;have u:=bH k;simp[g.tq,aD];refine⟨λhk=>?_,λhk=>n _ _ ?_⟩
 .refine bK hk ?_
  try simp
  have a:=bV hk;refine bA (Hc r l[k] (A _ a)) ?_;by_cases b:l[k].aQ r
  .simp[b,u];refine j (k+1) _ (aA.to [1,2,3,7] [((1,0),1)] (by simp[aD])) ⟨by omega,λi d B=>?_⟩ (by omega);by_cases f:i<k
   .exact o i d f
   .have:i=k:=by omega
    subst this;exact b
  .simp[b];refine hr _ ?_;simp;exact⟨_,a,b⟩
 .have:∀ w∈l,w.aQ r:=λx n=>by obtain⟨i,d,rfl⟩:=sQ.1 n;exact o i d (by omega)
  simp;exact this
end Go.Ab
namespace Go.Ab
open Enc (enc)
attribute [local simp] fX bL.aR
section
variable {α : Type} {key : α -> List Int} {up : α -> α -> α} {nw : α -> α}
theorem OF{B:List α}{x : α}:∀ {A:List α},(∀ a∈A,key a<key x)->eQ key up nw (A++B) x=A++eQ key up nw B x
 | [],_=>rfl
 | a::A,h=>by rw[xq,xq,<- OF (A:=A) λb d=>h b (by simp[d])];simp[eQ,h a (by simp)]
def Ji{O:List α}{x : α}{k:Nat}(h:∀ i,(d:i<O.length)->i<k->key O[i]<key x):eQ key up nw O x=O.take k++eQ key up nw (O.drop k) x:=by
 have e:=OF (up:=up) (nw:=nw) (B:=O.drop k) (x:=x) (A:=O.take k) λa f=>by obtain⟨i,d,rfl⟩:=sQ.1 f;have b:=d;rw[iB]at b;rw[List.getElem_take];exact h i (by omega) (by omega)
 rwa[oJ]at e
def yax{O:List α}{x : α}(h:∀ i,(a:i<O.length)->key O[i]<key x):eQ key up nw O x=O++[nw x]:=by rw[Ji (k:=O.length) λi a _=>h i a];simp[eQ]
def Zp{O:List α}{x : α}{k:Nat}(hk:k<O.length)(h:∀ i,(b:i<O.length)->i<k->key O[i]<key x)(a:key O[k]=key x):eQ key up nw O x=O.set k (up O[k] x):=by
 rw[Ji h,vw hk];have:¬ key O[k]<key x:=by rw[a];exact pN _
 simp only[eQ,aY this,aW a];rw[List.set_eq_take_append_cons_drop,aW hk]
def yaw{O:List α}{x : α}{k:Nat}(hk:k<O.length)(h:∀ i,(d:i<O.length)->i<k->key O[i]<key x)(a:¬ key O[k]<key x)(b:key O[k]≠key x):eQ key up nw O x=O.take k++nw x::O.drop k:=by rw[Ji h,vw hk];simp[eQ,a,b]
end
noncomputable instance:DecidableEq uW:=λ_ _=>Classical.propDecidable _
noncomputable instance:DecidableEq aC:=λ_ _=>Classical.propDecidable _
noncomputable instance:DecidableEq gH:=λ_ _=>Classical.propDecidable _
noncomputable instance:DecidableEq GTrans:=λ_ _=>Classical.propDecidable _
def N2{x y:aC}:x=y ↔ x.key=y.key/\x.w=y.w:=by cases x;cases y;simp[aC.key,and_assoc]
def Lm(x y:aC):zS 39 [enc x,enc y] (.int .i64 (fU x.key y.key)):=by refine Sp.vz c.ej λ_=>?_;simp[g.ej];have k:=T4 x.key y.key (by simp[aC.key]);rw[show ye x.key y.key=fU x.key y.key from rfl]at k;refine bF k (by simp[aC.key]) ?_;simp
def XT(a:GTrans)(h:a.sm 1048576)(li:a.aU.length<=1000000)(Z:a.fin.length<=1000000):zS 52 [enc a] (.bool (decide a.ok)):=by
 refine Sp.vz c.bi λ_=>?_;simp[g.bi];refine bF (oQ a.ring) rfl ?_;cases hr:a.ring.ok
 .simp;exact λok=>by rw[ok.ring]at hr;cases hr
 simp;refine bF (QD a.i) rfl ?_;by_cases G:1<=a.i/\a.i<=32;rotate_left
 .rw[decide_eq_false G];simp;exact λok=>G ok.i1
 rw[decide_eq_true G];simp;refine bF (QD a.o) rfl ?_;by_cases u:1<=a.o/\a.o<=32;rotate_left
 .rw[decide_eq_false u];simp;exact λok=>u ok.o1
 rw[decide_eq_true u];simp;refine bF (El a.st 0 64) rfl ?_;by_cases A:0<=a.st/\a.st<=64;rotate_left
 .rw[decide_eq_false A];simp;exact λok=>A ⟨ok.st1,ok.st2⟩
 rw[decide_eq_true A];simp;refine bA (Qx a.ring a.aU a.st h.aU (by omega)) ?_;by_cases B:(a.aU.length:Int)=a.st/\∀ w∈a.aU,w.aQ a.ring;rotate_left
 .rw[decide_eq_false B];simp;exact λok=>B ⟨ok.il,ok.aU⟩
 rw[decide_eq_true B];simp;refine bA (Qx a.ring a.fin a.st h.fin (by omega)) ?_;by_cases C:(a.fin.length:Int)=a.st/\∀ w∈a.fin,w.aQ a.ring;rotate_left
 .rw[decide_eq_false C];simp;exact λok=>C ⟨ok.fl,ok.fin⟩
 rw[decide_eq_true C];simp;refine⟨λU=>λok=>by have:=ok.al;omega,λU=>?_⟩
 refine cQ (S:=λk:Nat=>aD [(1,.ptr 1 0 0 0),(3,.p (.int .i64 k))] [(1,⟨8,[.p (enc a)]⟩)]) (I:=λk=>k<=a.aE.length/\∀ i,(E:i<a.aE.length)->i<k->inT a.aE[i] a) (m:=λk=>a.aE.length - k) 0
  (aA.to [1,3] [((1,0),1)] (by simp)) ⟨by omega,λi _ u=>by omega⟩ ?_
 rintro k ⟨X,O⟩ R W n F;have Q:=bH k;have N:IntKind.i64.wrap (a.st - 1)=a.st - 1:=by
  by_cases Y:1<=a.st
  .obtain⟨m,V⟩:=Mg (show 0<=a.st - 1 by omega);rw[V];exact cG (by omega) (by omega)
  .have:a.st=0:=by omega
   rw[this];rfl
 simp[g.s9,aD,N];refine⟨λhk=>?_,λhk=>F _ _ ?_⟩
 .refine bK hk ?_;have b:¬ inT a.aE[k] a->¬ a.ok:=λh ok=>h (ok.aE _ (bV hk));have M:a.aE[k].w.sm 1048576:=h.aE _ (bV hk);have s:inT a.aE[k] a->∀ i,(E:i<a.aE.length)->i<k+1->inT a.aE[i] a:=λF i E u=>by
   by_cases L:i<k
   .exact O i E L
   .have:i=k:=by omega
    subst this;exact F
  generalize a.aE[k]=x at *
  refine bF (El x.f 0 (a.st - 1)) rfl ?_;by_cases H:0<=x.f/\x.f<=a.st - 1;rotate_left
  .rw[decide_eq_false H];simp;refine n _ ?_;simp;exact(b λd=>H ⟨d.1,by have:=d.2.1;omega⟩)
  rw[decide_eq_true H];simp[N];refine bF (El x.t 0 (a.st - 1)) rfl ?_;by_cases J:0<=x.t/\x.t<=a.st - 1;rotate_left
  .rw[decide_eq_false J];simp;refine n _ ?_;simp;exact(b λd=>J ⟨d.2.2.1,by have:=d.2.2.2.1;omega⟩)
  rw[decide_eq_true J];simp;refine bF (El x.i 0 a.i) rfl ?_;by_cases j:0<=x.i/\x.i<=a.i;rotate_left
  .rw[decide_eq_false j];simp;refine n _ ?_;simp;exact(b λd=>j ⟨d.2.2.2.2.1,d.2.2.2.2.2.1⟩)
  rw[decide_eq_true j];simp;refine bF (El x.o 0 a.o) rfl ?_;by_cases l:0<=x.o/\x.o<=a.o;rotate_left
  .rw[decide_eq_false l];simp;refine n _ ?_;simp;exact(b λd=>l ⟨d.2.2.2.2.2.2.1,d.2.2.2.2.2.2.2.1⟩)
  rw[decide_eq_true l];simp;refine bA (Hc a.ring x.w M) ?_;by_cases K:x.w.aQ a.ring;rotate_left
  .simp[K];refine n _ ?_;simp;exact(b λd=>K d.2.2.2.2.2.2.2.2)
  simp[K,Q];exact W (k+1) _ (aA.to [1,3] [((1,0),1)] (by simp[aD])) ⟨by omega,s ⟨H.1,by omega,J.1,by omega,j.1,j.2,l.1,l.2,K⟩⟩ (by omega)
 .have D:∀ x∈a.aE,inT x a:=λx F=>by obtain⟨i,E,rfl⟩:=sQ.1 F;exact O i E (by omega)
  have ok:a.ok:=⟨hr,G,u,A.1,A.2,B.1,C.1,by omega,D,B.2,C.2⟩;simp[ok]
noncomputable def Iz(r:aB)(l:List aC):List aC:=(sc aC.key (lv r) id l).filter λx=>!decide (x.w=r.zero)
def XX(r:aB)(l:List aC):Iz r l=cR r l:=by unfold Iz cR;rw[(Rv (up:=lv r) (nw:=id) (λ_ _=>rfl) (λ_=>rfl) l).1]
def OY(a b:GTrans)(h:a.sm 1048576)(Q:a.aU.length<=1000000)(O:a.fin.length<=1000000)(N:a.aE.length<=1000000) :
  zS 11 [enc a,enc b] (.bool (decide (a=b))):=by
 refine Sp.vz c.bw λ_=>?_;simp[g.bw];refine bA (Og a.ring b.ring) ?_;by_cases l:a.ring=b.ring;rotate_left
 .rw[decide_eq_false l];simp;exact λh=>l (by rw[h])
 rw[decide_eq_true l];simp;by_cases j:a.i=b.i;rotate_left
 .simp[j];exact λh=>j (by rw[h])
 by_cases d:a.o=b.o;rotate_left
 .simp[j,d];exact λh=>d (by rw[h])
 by_cases A:a.st=b.st;rotate_left
 .simp[j,d,A];exact λh=>A (by rw[h])
 simp[j,d,A];refine bA (QM a.aU b.aU (by omega) h.aU) ?_;by_cases B:a.aU=b.aU;rotate_left
 .rw[decide_eq_false B];simp;exact λh=>B (by rw[h])
 rw[decide_eq_true B];simp;refine bA (QM a.fin b.fin (by omega) h.fin) ?_;by_cases C:a.fin=b.fin;rotate_left
 .rw[decide_eq_false C];simp;exact λh=>C (by rw[h])
 rw[decide_eq_true C];simp;by_cases G:a.aE.length=b.aE.length;rotate_left
 .have:¬ (a.aE.length:Int)=b.aE.length:=by omega
  simp[this];exact λh=>G (by rw[h])
 simp[G]
 refine cQ (S:=λk:Nat=>aD [(2,.ptr 1 0 0 0),(3,.ptr 2 0 0 0),(5,.p (.int .i64 k))] [(1,⟨8,[.p (enc a)]⟩),(2,⟨8,[.p (enc b)]⟩)]) (I:=λk=>k<=a.aE.length/\a.aE.take k=b.aE.take k) (m:=λk=>a.aE.length - k) 0
  (aA.to [2,3,5] [((2,0),1),((3,0),2)] (by simp[j,d,A])) ⟨by omega,by simp⟩ ?_
 rintro k ⟨M,D⟩ R K x L;have J:=bH k;by_cases hk:k<a.aE.length
 .have n:k<b.aE.length:=by omega
  have t:a.aE[k].w.sm 1048576:=h.aE _ (bV hk);have u:a.aE[k]≠b.aE[k]->a≠b:=λl j=>by subst j;exact l rfl
  have F:a.aE[k]=b.aE[k]->a.aE.take (k+1)=b.aE.take (k+1):=λl=>by rw[ed hk,ed n,D,l]
  simp[g.qw,aD,hk];refine bK hk ?_;refine bK n ?_;have s:fU a.aE[k].key b.aE[k].key=0 ↔ a.aE[k].key=b.aE[k].key:=Gu (by simp[aC.key]);refine bA (Lm a.aE[k] b.aE[k]) ?_;simp;refine⟨λE=>?_,λE=>x _ ?_⟩
  .refine bK hk ?_;refine bK n ?_;refine bA (He a.aE[k].w t b.aE[k].w) ?_;by_cases f:a.aE[k].w=b.aE[k].w
   .rw[decide_eq_true f];simp[J];exact K (k+1) _ (aA.to [2,3,5] [((1,0),1),((2,0),2)] (by simp[aD])) ⟨by omega,F (N2.2 ⟨s.1 E,f⟩)⟩ (by omega)
   .rw[decide_eq_false f];simp;refine x _ ?_;simp;exact u λh=>f (by rw[h])
  .simp;exact u λh=>E (s.2 (by rw[h]))
 .simp[g.qw,aD,hk];refine L _ _ ?_;have H:a.aE=b.aE:=by rw[fK (by omega),fK (by omega)]at D;exact D
  have:a=b:=by cases a;cases b;simp_all
  simp[this]
end Go.Ab
namespace Go.Ab
section
variable {α : Type} {key : α -> List Int} {wt : α -> GW} {r:aB} {up : α -> α -> α}
def ydg(hr:r.ok=true)(hk:∀ z y,key (up z y)=key z)(hw:∀ z y,wt (up z y)=r.plus (wt z) (wt y)){l:List α}(h:∀ x∈l,(wt x).aQ r){x : α}(f:x∈tid key wt r up l):∃ y∈l,key y=key x:=by
 obtain⟨s,c,e⟩:=GV (up:=up) hr hk hw h;by_cases d:∃ y∈l,key y=key x
 .exact d
 .have a:=Ja s (λy b=>(c y b).1) f;unfold yi at a;rw[e]at a;have i:yi key wt r l (key x)=r.zero:=Jb λy b e=>d ⟨y,b,e⟩;exact absurd (a.symm.trans i) (c x f).2
def ydf(hk:∀ z y,key (up z y)=key z)(l:List α):(tid key wt r up l).length<=l.length:=by unfold tid;refine dP (nQ _ _) ?_;have h:=(Jm (key:=key) (up:=up) (nw:=id) (Q:=λ_ _=>True) (l:=b6 key l) (λ_ _ _=>trivial) (λ_ _=>trivial) (λ_ _ _ _ _=>trivial) (λ_ _ _=>trivial) _ (dK _)).1;rw[lO,(iQ l).2.1]at h;exact h
end
def Xc{r:aB}(hr:r.ok=true){l:List aC}(h:∀ x∈l,x.w.aQ r):eI aC.key (tid aC.key aC.w r (lv r) l)/\(∀ x∈tid aC.key aC.w r (lv r) l,x.w.aQ r/\x.w≠r.zero)/\∀ p,mF aC.key aC.w r (tid aC.key aC.w r (lv r) l) p=mF aC.key aC.w r l p:=GV (key:=aC.key) (wt:=aC.w) (up:=lv r) hr (λ_ _=>rfl) (λ_ _=>rfl) h
def Eo{a:GTrans}(ok:a.ok):a.nf.ok:=by have k:∀ x∈a.aE,x.w.aQ a.ring:=λx d=>(ok.aE x d).2.2.2.2.2.2.2.2;refine⟨ok.ring,ok.i1,ok.o1,ok.st1,ok.st2,ok.il,ok.fl,dP (ydf (key:=aC.key) (wt:=aC.w) (r:=a.ring) (up:=lv a.ring) (λ_ _=>rfl) a.aE) ok.al,λx d=>?_,ok.aU,ok.fin⟩;have b:x∈tid aC.key aC.w a.ring (lv a.ring) a.aE:=d;obtain⟨y,A,e⟩:=ydg (key:=aC.key) (wt:=aC.w) (up:=lv a.ring) ok.ring (λ_ _=>rfl) (λ_ _=>rfl) k b;obtain⟨l,m,n,o,p,s,t,u,_⟩:=ok.aE y A;simp only[aC.key,List.cons.injEq,and_true]at e;obtain⟨f,h,i,j⟩:=e;exact⟨f ▸ l,f ▸ m,j ▸ n,j ▸ o,h ▸ p,h ▸ s,i ▸ t,i ▸ u,((Xc ok.ring k).2.1 x b).1⟩
end Go.Ab
