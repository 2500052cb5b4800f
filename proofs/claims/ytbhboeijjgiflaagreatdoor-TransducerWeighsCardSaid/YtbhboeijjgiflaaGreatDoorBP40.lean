/-
Proofs for the law TransducerWeighs, part 40. Conditions: none.
-/
import Derived.Test.YtbhboeijjgiflaaGreatDoorBP39
import Derived.Test.YtbhboeijjgiflaaGreatDoorBP29
set_option maxRecDepth 100000
set_option maxHeartbeats 4000000
set_option linter.all false
namespace Go.Ab
structure SR where
 α : Type
 z : α
 p : α -> α -> α
 m : α -> α -> α
 pc:∀ a b,p a b=p b a
 pa:∀ a b c,p (p a b) c=p a (p b c)
 pz:∀ a,p a z=a
 mc:∀ a b,m a b=m b a
 ma:∀ a b c,m (m a b) c=m a (m b c)
 mp:∀ a b c,m a (p b c)=p (m a b) (m a c)
 mz:∀ a,m a z=z
namespace SR
variable (S:SR) {β γ : Type}
def sum (l:List β) (f : β -> S.α):S.α := l.foldr (fun x s=>S.p (f x) s) S.z
theorem zp (a:S.α):S.p S.z a=a:=by rw [S.pc,S.pz]
theorem zm (a:S.α):S.m S.z a=S.z:=by rw [S.mc,S.mz]
theorem plc (a b c:S.α):S.p a (S.p b c)=S.p b (S.p a c):=by rw [<- S.pa,S.pc a b,S.pa]
theorem sum_nil (f : β -> S.α):S.sum [] f=S.z:=rfl
theorem sum_cons (x : β) (l:List β) (f : β -> S.α):S.sum (x::l) f=S.p (f x) (S.sum l f):=rfl
theorem sum_congr {l:List β} {f g : β -> S.α} (h:∀ x∈l,f x=g x):S.sum l f=S.sum l g:=by
 induction l with
 | nil=>rfl
 | cons x l ih=>rw [sum_cons,sum_cons,h x yl6,ih fun y hy=>h y (ykq _ hy)]
theorem zyt (l k:List β) (f : β -> S.α):S.sum (l++k) f=S.p (S.sum l f) (S.sum k f):=by
 induction l with
 | nil=>exact (S.zp _).symm
 | cons x l ih=>rw [ymj,sum_cons,sum_cons,ih,S.pa]
theorem sum_zero (l:List β):S.sum l (fun _=>S.z)=S.z:=by
 induction l with
 | nil=>rfl
 | cons x l ih=>rw [sum_cons,ih,S.pz]
theorem sum_add (l:List β) (f g : β -> S.α):S.sum l (fun x=>S.p (f x) (g x))=S.p (S.sum l f) (S.sum l g):=by
 induction l with
 | nil=>exact (S.pz _).symm
 | cons x l ih=>rw [sum_cons,sum_cons,sum_cons,ih,S.pa,S.pa,S.plc (g x)]
theorem sum_range (n:Nat) (f:Nat->S.α):S.sum (List.range (n+1)) f=S.p (S.sum (List.range n) f) (f n):=by rw [yme,zyt,sum_cons,sum_nil,S.pz]
theorem sum_delta {n t:Nat} (h:t<n) (g:Nat->S.α):S.sum (List.range n) (fun s=>if s=t then g s else S.z)=g t:=by
 induction n with
 | zero=>omega
 | succ n ih =>
  rw [sum_range];by_cases ht:t=n
  ·subst ht;rw [yj9 rfl,S.sum_congr (g:=fun _=>S.z) fun s hs=>yj8 (by have:=yky.1 hs; omega),sum_zero,zp]
  ·rw [ih (by omega),yj8 (by omega),S.pz]
variable (F T : β -> Nat) (L : β -> Int) (W : β -> S.α) (A:List β)
def dot (n:Nat) (v w:Nat->S.α):S.α := S.sum (List.range n) fun s=>S.m (v s) (w s)
variable {F T A}
end SR
def CW (r:GRing):Type:={w:GW // w.chk r}
def srG (r:GRing) (hr:r.ok=true):SR where
 α := CW r
 z:=⟨r.zero,zbq hr⟩
 p a b:=⟨r.plus a.1 b.1,zch a.2 b.2⟩
 m a b:=⟨r.times a.1 b.1,za7 a.2 b.2⟩
 pc a b:=yml (zha a.2 b.2)
 pa a b c:=yml (zdm a.2 b.2 c.2)
 pz a:=yml (zc3 a.2)
 mc a b:=yml (zyo a.2 b.2)
 ma a b c:=yml (zt8 a.2 b.2 c.2)
 mp a b c:=yml (zyn a.2 b.2 c.2)
 mz a:=yml (zym a.2)
section
variable {r:GRing} (hr:r.ok=true)
noncomputable def cw0 (w:GW):CW r:=@dite _ (w.chk r) (Classical.propDecidable _) (fun h=>⟨w,h⟩) fun _=>⟨r.zero,zbq hr⟩
noncomputable def cw (w:GW):(srG r hr).α := cw0 hr w
theorem zjw {w:GW} (h:w.chk r):(cw hr w).1=w:=by have e:cw0 hr w=⟨w,h⟩:=dif_pos h;exact congrArg Subtype.val e
theorem zvp:cw hr r.zero=(srG r hr).z:=yml (zjw hr (zbq hr))
theorem zvr {v w:GW} (hv:v.chk r) (hw:w.chk r):cw hr (r.plus v w)=(srG r hr).p (cw hr v) (cw hr w):=yml (by
 rw [zjw hr (zch hv hw)];show _=r.plus (cw hr v).1 (cw hr w).1;rw [zjw hr hv,zjw hr hw])
theorem zrf {v w:GW} (hv:v.chk r) (hw:w.chk r):cw hr (r.times v w)=(srG r hr).m (cw hr v) (cw hr w):=yml (by
 rw [zjw hr (za7 hv hw)];show _=r.times (cw hr v).1 (cw hr w).1;rw [zjw hr hv,zjw hr hw])
theorem yf4 {v w:GW} (hv:v.chk r) (hw:w.chk r) (h:cw hr v=cw hr w):v=w:=by rw [<- zjw hr hv,<- zjw hr hw,h]
noncomputable def gd (l:List GW) (s:Nat):(srG r hr).α := cw hr (l.getD s r.zero)
variable {α : Type} {key : α -> List Int} {wt : α -> GW} {up : α -> α -> α} (h:List Int->(srG r hr).α)
noncomputable def hs (key : α -> List Int) (wt : α -> GW) (l:List α):(srG r hr).α := (srG r hr).sum l fun x=>(srG r hr).m (cw hr (wt x)) (h (key x))
variable (hk:∀ z y,key (up z y)=key z) (hw:∀ z y,wt (up z y)=r.plus (wt z) (wt y))
end
section
variable {r:GRing} (hr:r.ok=true)
include hr in
theorem zh2 {N:Nat} {l:List GW} (h:ckL r N l) (s:Nat):(l.getD s r.zero).chk r:=by
 rw [yk9];cases e:l[s]? with
 | none=>exact zbq hr
 | some w=>exact h.1 w (ymh e)
theorem zxs (n s:Nat):gd hr (List.replicate n r.zero) s=(srG r hr).z:=by
 unfold gd;have:(List.replicate n r.zero).getD s r.zero=r.zero:=by rw [yk9,ypg];split<;>rfl
 rw [this,zvp]
theorem zs3 {l:List GW} {i s:Nat} (v:GW) (h:i≠s):gd hr (l.set i v) s=gd hr l s:=by unfold gd;rw [yk9,yn9 h,<- List.getD_eq_getElem?_getD]
theorem zng {l:List GW} {i:Nat} (v:GW) (h:i<l.length):gd hr (l.set i v) i=cw hr v:=by unfold gd;rw [yk9,ynq h]; rfl
noncomputable def ctr (p:GTArc->Option (List GW)) (s:Nat) (x:GTArc):(srG r hr).α := match p x with
 | some e=>if x.f.toNat=s then (srG r hr).m (cw hr x.w) (gd hr e x.t.toNat) else (srG r hr).z
 | none=>(srG r hr).z
theorem yco {N:Nat} {p:GTArc->Option (List GW)} {b:List GW} {x:GTArc} (hb:ckL r N b) (hx:okA r N p x) (s:Nat):gd hr (accS r p b x) s=(srG r hr).p (gd hr b s) (ctr hr p s x):=by
 unfold accS ctr;cases h:p x with
 | none=>exact ((srG r hr).pz _).symm
 | some e =>
  obtain ⟨⟨a1,a2⟩,a3,a4⟩:=hx.2.1;have he:=hx.2.2 e h;show gd hr (addW r b x e) s=(srG r hr).p (gd hr b s) (if x.f.toNat=s then _ else _);unfold addW;by_cases hs:x.f.toNat=s
  ·subst hs;rw [yj9 rfl,zng hr _ (by rw [hb.2]; omega),zvr hr (zh2 hr hb _) (za7 hx.1 (zh2 hr he _)),zrf hr hx.1 (zh2 hr he _)];rfl
  ·rw [yj8 hs,zs3 hr _ hs,(srG r hr).pz]
theorem zv0 {N:Nat} {p:GTArc->Option (List GW)} (s:Nat):∀ {l:List GTArc} {b:List GW},ckL r N b->(∀ x∈l,okA r N p x)->gd hr (accW r p l b) s=(srG r hr).p (gd hr b s) ((srG r hr).sum l (ctr hr p s))
 | [],b,_,_=>((srG r hr).pz _).symm
 | x::l,b,hb,h=>by have hx:=h x yl6;show gd hr (accW r p l (accS r p b x)) s=_;rw [zv0 s (zv1 hb hx) fun y hy=>h y (ykq _ hy),yco hr hb hx,SR.sum_cons,(srG r hr).pa]
theorem z5p (t:GTrans):swap t t.inv:=⟨rfl,rfl,rfl,rfl,List.Perm.refl _⟩
theorem drop_nil {w:List Int} {i:Nat} (h:w.drop i=[]) (hi:i<=w.length):i=w.length/\w[i]?=none:=by have:=List.drop_eq_nil_iff.1 h;exact ⟨by omega,yli (by omega)⟩
theorem zvq {N:Nat} {ini row:List GW} (h1:ckL r N ini) (h2:ckL r N row):∀ n,n<=N->(sumN r ini row n).chk r/\cw hr (sumN r ini row n)=(srG r hr).sum (List.range n) fun j=>(srG r hr).m (gd hr ini j) (gd hr row j)
 | 0,_=>⟨zbq hr,zvp hr⟩
 | n+1,hn=>by
  obtain ⟨i1,i2⟩:=zvq h1 h2 n (by omega);have l1:n<ini.length:=by rw [h1.2]; omega
  have l2:n<row.length:=by rw [h2.2]; omega
  have k1:=h1.1 _ (yk2 l1);have k2:=h2.1 _ (yk2 l2);have g1:gd hr ini n=cw hr ini[n]:=by unfold gd; rw [yk9,ykg l1]; rfl
  have g2:gd hr row n=cw hr row[n]:=by unfold gd; rw [yk9,ykg l2]; rfl
  rw [zi0 l1 l2];exact ⟨zch i1 (za7 k1 k2),by rw [zvr hr i1 (za7 k1 k2),zrf hr k1 k2,i2,SR.sum_range,g1,g2]⟩
end
def stp (l:Int):Nat:=if l=0 then 0 else 1
def fitT (wx wy:List Int) (i k:Nat) (x:GTArc):Prop:=(x.i=0\/wx[i]?=some x.i)/\(x.o=0\/wy[k]?=some x.o)
instance (wx wy:List Int) (i k:Nat) (x:GTArc):Decidable (fitT wx wy i k x):=by unfold fitT; infer_instance
section
variable {r:GRing} (hr:r.ok=true)
theorem z9w {N:Nat} {l:List GTArc} {b:List GW} (hb:ckL r N b) (h:zpr r N l) (n:Nat):ckL r N (sprN r l b n):=(zud (l':=l.map swT) (List.Perm.refl _) hb h n).2
theorem ya5 {N:Nat} {l:List GTArc} {b:List GW} (hb:ckL r N b) (h:zpr r N l) (n:Nat):∀ x∈l,okA r N (zc7 (sprN r l b n)) x:=fun x hx=>⟨(h x hx).1,(h x hx).2,fun e he=>by
 unfold zc7 at he;split at he
 ·cases he; exact z9w hb h n
 ·cases he⟩
theorem zwh {N:Nat} {l:List GTArc} {b:List GW} (hb:ckL r N b) (h:zpr r N l) (n s:Nat):gd hr (sprN r l b (n+1)) s=(srG r hr).p (gd hr b s) ((srG r hr).sum l (ctr hr (zc7 (sprN r l b n)) s)):=zv0 hr s hb (ya5 hb h n)
theorem zlw (v:List GW) (s:Nat) (x:GTArc):ctr hr (zc7 v) s x=if emF x=true/\x.f.toNat=s then (srG r hr).m (cw hr x.w) (gd hr v x.t.toNat) else (srG r hr).z:=by
 unfold ctr zc7;by_cases he:emF x=true
 ·simp only [he,yk0,true_and]
 ·simp only [he,yk7,false_and,ykf]
theorem z0u {N:Nat} {l:List GTArc} {b:List GW} (hb:ckL r N b) (h:zpr r N l) {pos:Nat->Nat} (hp:∀ x∈l,emF x=true->pos x.f.toNat<pos x.t.toNat/\pos x.t.toNat<N) :
  ∀ n s,N<=n+1+pos s->gd hr (sprN r l b (n+1)) s=gd hr (sprN r l b n) s
 | 0,s,hn=>by
  rw [zwh hr hb h,(srG r hr).sum_congr (g:=fun _=>(srG r hr).z) fun x hx=>?_,SR.sum_zero,(srG r hr).pz]; rfl;rw [zlw,yj8];rintro ⟨h1,rfl⟩;have:=hp x hx h1;omega
 | n+1,s,hn=>by
  rw [zwh hr hb h,zwh hr hb h n]
  congr 1
  refine (srG r hr).sum_congr fun x hx=>?_;rw [zlw,zlw];by_cases hc:emF x=true/\x.f.toNat=s
  ·rw [yj9 hc,yj9 hc];obtain ⟨h1,rfl⟩:=hc;have:=hp x hx h1;rw [z0u hb h hp n x.t.toNat (by omega)]
  ·rw [yj8 hc,yj8 hc]
theorem z9l {t:GTrans} (ht:ckT r t) (wx wy:List Int) (n i k:Nat) (hi:i<=wx.length) (hk:k<=wy.length) (h:wx.length - i+(wy.length - k)<n):ckL r t.st.toNat (valW t wx wy n i k):=(zt6 ht (z5p t) wx wy n i k hi hk h).2
theorem z0o {t:GTrans} (ht:ckT r t) {wx wy:List Int} {i k:Nat} (hi:i<=wx.length) (hk:k<=wy.length):ckL r t.st.toNat (tabW t wx wy i k):=z9l ht wx wy _ i k hi hk (by omega)
theorem nx_0 {l:Int} {w:List Int} {i:Nat} (h:l=0\/w[i]?=some l):nx l w i=((i+stp l:Nat):Int):=by
 unfold nx stp;by_cases h0:l=0
 ·rw [yj9 h0,yj9 h0,ylb]
 ·rw [yj8 h0,yj8 h0,yj9 (h.resolve_left h0)]; rfl
theorem nx_1 {l:Int} {w:List Int} {i:Nat} (h:¬ (l=0\/w[i]?=some l)):nx l w i = -1:=by unfold nx;rw [yj8 fun e=>h (.inl e),yj8 fun e=>h (.inr e)]
theorem zr1 {wx wy:List Int} {i k:Nat} (f:Nat->Nat->List GW) (x:GTArc):zcq wx wy i k f x=if fitT wx wy i k x/\emF x=false then some (f (i+stp x.i) (k+stp x.o)) else none:=by
 by_cases h1:x.i=0\/wx[i]?=some x.i
 ·by_cases h2:x.o=0\/wy[k]?=some x.o
  ·have e1:=nx_0 h1;have e2:=nx_0 h2;have e3:emF x=false ↔ 0<stp x.i+stp x.o:=by unfold emF stp;by_cases a:x.i=0<;>by_cases b:x.o=0<;>simp [a,b]
   unfold zcq;rw [e1,e2,yld,yld];by_cases h3:emF x=false
   ·have:=e3.1 h3;rw [yj9 (show 0<=((i+stp x.i:Nat):Int)/\0<=((k+stp x.o:Nat):Int)/\(i:Int)+k<((i+stp x.i:Nat):Int)+((k+stp x.o:Nat):Int) from ⟨by omega,by omega,by omega⟩),yj9 (show fitT wx wy i k x/\emF x=false from ⟨⟨h1,h2⟩,h3⟩)]
   ·rw [yj8 (show ¬ (0<=((i+stp x.i:Nat):Int)/\0<=((k+stp x.o:Nat):Int)/\(i:Int)+k<((i+stp x.i:Nat):Int)+((k+stp x.o:Nat):Int)) from fun h=>h3 (e3.2 (by have:=h.2.2; omega))),yj8 (show ¬ (fitT wx wy i k x/\emF x=false) from fun h=>h3 h.2)]
  ·rw [yj8 fun h=>h2 h.1.2];unfold zcq;rw [nx_1 h2,yj8 fun h=>by have:=h.2.1; omega]
 ·rw [yj8 fun h=>h1 h.1.1];unfold zcq;rw [nx_1 h1,yj8 fun h=>by have:=h.1; omega]
theorem z5n {t:GTrans} (ht:ckT r t) {wx wy:List Int} {i k:Nat} (hi:i<=wx.length) (hk:k<=wy.length) {pos:Nat->Nat} (hp:∀ x∈t.arcs,emF x=true->pos x.f.toNat<pos x.t.toNat/\pos x.t.toNat<t.st.toNat) (s:Nat) :
  gd hr (tabW t wx wy i k) s=(srG r hr).p (gd hr (zep t wx wy i k) s) ((srG r hr).sum t.arcs fun x=>if x.f.toNat=s/\fitT wx wy i k x then (srG r hr).m (cw hr x.w) (gd hr (tabW t wx wy (i+stp x.i) (k+stp x.o)) x.t.toNat) else (srG r hr).z):=by
 have hring:=ht.ring;have hb:=zx9 ht wx wy i k;have hok:∀ x∈t.arcs,okA r t.st.toNat (zcq wx wy i k (tabW t wx wy)) x:=fun x hx=>⟨(ht.arcs x hx).1,(ht.arcs x hx).2,fun e he=>by
  obtain ⟨a,b,h1,h2,h3,h4,h5,h6,h7,h8,h9,rfl⟩:=zeq hi hk he;exact z0o ht h7 h8⟩
 have hrow:ckL r t.st.toNat (rowW t wx wy i k (tabW t wx wy)):=by unfold rowW; rw [hring]; exact zrr hb hok
 have hfix:=z0u hr hrow ht.arcs hp t.st.toNat s (by omega);have he:tabW t wx wy i k=sprN r t.arcs (rowW t wx wy i k (tabW t wx wy)) t.st.toNat:=by
  have:=z0n (t:=t) hi hk;unfold zf5 at this
  rwa [hring] at this
 rw [zwh hr hrow ht.arcs,<- he] at hfix;have hr1:gd hr (rowW t wx wy i k (tabW t wx wy)) s=(srG r hr).p (gd hr (zep t wx wy i k) s) ((srG r hr).sum t.arcs (ctr hr (zcq wx wy i k (tabW t wx wy)) s)):=by unfold rowW;rw [hring]; exact zv0 hr s hb hok
 rw [hr1,(srG r hr).pa,<- SR.sum_add] at hfix;rw [<- hfix]
 congr 1
 refine (srG r hr).sum_congr fun x hx=>?_;rw [zlw];have hcs:ctr hr (zcq wx wy i k (tabW t wx wy)) s x=if x.f.toNat=s/\fitT wx wy i k x/\emF x=false then (srG r hr).m (cw hr x.w) (gd hr (tabW t wx wy (i+stp x.i) (k+stp x.o)) x.t.toNat) else (srG r hr).z:=by
  unfold ctr;rw [zr1];by_cases h1:fitT wx wy i k x/\emF x=false
  ·rw [yj9 h1];by_cases h2:x.f.toNat=s
   ·simp only [h2,yk0,h1,and_self,true_and]
   ·simp only [h2,yk7,false_and]
  ·rw [yj8 h1,yj8 fun h=>h1 h.2]
 rw [hcs];by_cases he:emF x=true
 ·rw [if_neg (fun h=>by rw [h.2.2] at he; cases he),SR.zp];have h0:x.i=0/\x.o=0:=by simpa [emF] using he
  have hf:fitT wx wy i k x:=⟨.inl h0.1,.inl h0.2⟩;have e1:stp x.i=0:=by unfold stp; rw [yj9 h0.1]
  have e2:stp x.o=0:=by unfold stp; rw [yj9 h0.2]
  by_cases h2:x.f.toNat=s
  ·rw [yj9 ⟨he,h2⟩,yj9 ⟨h2,hf⟩,e1,e2,ylb,ylb]
  ·rw [yj8 fun h=>h2 h.2,yj8 fun h=>h2 h.1]
 ·have he':emF x=false:=by simpa using he
  rw [yj8 fun h:emF x=true/\x.f.toNat=s=>he h.1,(srG r hr).pz];by_cases h2:x.f.toNat=s/\fitT wx wy i k x
  ·rw [yj9 ⟨h2.1,h2.2,he'⟩,yj9 h2]
  ·rw [yj8 fun h=>h2 ⟨h.1,h.2.1⟩,yj8 h2]
end
section
variable {r:GRing}
def adT (r:GRing) (T:List (List GW)) (p q:Nat) (w:GW):List (List GW):=T.set p ((T.getD p []).set q (r.plus ((T.getD p []).getD q r.zero) w))
def arT (r:GRing) (wx wy:List Int) (i k q:Nat) (w:GW) (T:List (List GW)) (x:GTArc):List (List GW):=if x.f.toNat=q/\fitT wx wy i k x then adT r T ((i+stp x.i)*(wy.length+1)+(k+stp x.o)) x.t.toNat (r.times w x.w) else T
noncomputable def stT (r:GRing) (wx wy:List Int) (A:List GTArc) (i k:Nat) (T:List (List GW)) (q:Nat):List (List GW) :=
 if (T.getD (i*(wy.length+1)+k) []).getD q r.zero=r.zero then T else A.foldl (arT r wx wy i k q ((T.getD (i*(wy.length+1)+k) []).getD q r.zero)) T
noncomputable def plT (r:GRing) (wx wy:List Int) (A:List GTArc) (ord:List Nat) (i k:Nat) (T:List (List GW)):List (List GW):=ord.foldl (stT r wx wy A i k) T
noncomputable def rwT (r:GRing) (wx wy:List Int) (A:List GTArc) (ord:List Nat) (i:Nat) (T:List (List GW)) (n:Nat):List (List GW):=(List.range n).foldl (fun T k=>plT r wx wy A ord i k T) T
noncomputable def flT (r:GRing) (wx wy:List Int) (A:List GTArc) (ord:List Nat) (T:List (List GW)) (n:Nat):List (List GW):=(List.range n).foldl (fun T i=>rwT r wx wy A ord i T (wy.length+1)) T
def zcc (r:GRing) (K N:Nat) (T:List (List GW)):Prop:=T.length=K/\∀ l∈T,ckL r N l
theorem zcc.get {K N:Nat} {T:List (List GW)} (h:zcc r K N T) {p:Nat} (hp:p<K):ckL r N (T.getD p []):=by rw [yk9,ykg (by rw [h.1]; exact hp)]; exact h.2 _ (yk2 _)
variable (hr:r.ok=true)
include hr in
theorem yge {K N:Nat} {T:List (List GW)} (h:zcc r K N T) {p q:Nat} (hp:p<K) {w:GW} (hw:w.chk r):zcc r K N (adT r T p q w):=by
 refine ⟨by unfold adT; rw [List.length_set]; exact h.1,fun l hl=>?_⟩;have hg:=h.get hp;rcases ym6 hl with h1|h1
 ·exact h.2 l h1
 ·rw [h1];refine ⟨fun v hv=>?_,by rw [List.length_set]; exact hg.2⟩;rcases ym6 hv with h2|h2
  ·exact hg.1 v h2
  ·rw [h2]; exact zch (zh2 hr hg q) hw
noncomputable def Ph (K N:Nat) (β : Nat->Nat->(srG r hr).α) (T:List (List GW)):(srG r hr).α := (srG r hr).sum (List.range K) fun p=>(srG r hr).sum (List.range N) fun q=>(srG r hr).m (gd hr (T.getD p []) q) (β p q)
theorem pm {S:SR} (a b c:S.α):S.m (S.p a b) c=S.p (S.m a c) (S.m b c):=by rw [S.mc,S.mp,S.mc c a,S.mc c b]
theorem zon (S:SR) {K N p0 q0:Nat} (hp:p0<K) (hq:q0<N) (c:S.α):S.sum (List.range K) (fun p=>S.sum (List.range N) fun q=>if p=p0/\q=q0 then c else S.z)=c:=by
 rw [S.sum_congr (g:=fun p=>if p=p0 then c else S.z) fun p _=>?_]
 ·exact S.sum_delta hp fun _=>c
 ·by_cases h:p=p0
  ·simp only [h,true_and,yk0]; exact S.sum_delta hq fun _=>c
  ·simp only [h,false_and,yk7]; exact S.sum_zero _
theorem yjn {K N:Nat} {T:List (List GW)} (h:zcc r K N T) {p q:Nat} (hp:p<K) (hq:q<N) {w:GW} (hw:w.chk r) (β : Nat->Nat->(srG r hr).α):Ph hr K N β (adT r T p q w)=(srG r hr).p (Ph hr K N β T) ((srG r hr).m (cw hr w) (β p q)):=by
 have hg:=h.get hp;have hv:∀ p' q',gd hr ((adT r T p q w).getD p' []) q'=(srG r hr).p (gd hr (T.getD p' []) q') (if p'=p/\q'=q then cw hr w else (srG r hr).z):=fun p' q'=>by
  have hl:p<T.length:=by rw [h.1]; exact hp
  unfold adT;by_cases e:p'=p
  ·subst e;rw [yk9,ynq hl,yn4];by_cases e2:q'=q
   ·subst e2;rw [zng hr _ (by rw [hg.2]; exact hq),zvr hr (zh2 hr hg _) hw,yj9 ⟨rfl,rfl⟩]; rfl
   ·rw [zs3 hr _ (ykt e2),yj8 fun h=>e2 h.2,(srG r hr).pz]
  ·rw [yk9,yn9 (ykt e),<- List.getD_eq_getElem?_getD,yj8 fun h=>e h.1,(srG r hr).pz]
 unfold Ph;rw [(srG r hr).sum_congr (g:=fun p'=>(srG r hr).p ((srG r hr).sum (List.range N) fun q'=>(srG r hr).m (gd hr (T.getD p' []) q') (β p' q')) ((srG r hr).sum (List.range N) fun q'=>if p'=p/\q'=q then (srG r hr).m (cw hr w) (β p q) else (srG r hr).z)) fun p' _=>?_]
 ·rw [SR.sum_add,zon _ hp hq]
 ·rw [<- SR.sum_add];refine (srG r hr).sum_congr fun q' _=>?_;rw [hv,pm]
  congr 1
  by_cases e:p'=p/\q'=q
  ·rw [yj9 e,yj9 e,e.1,e.2]
  ·rw [yj8 e,yj8 e,SR.zm]
theorem yjm {K N p q:Nat} (hp:p<K) (hq:q<N) (T:List (List GW)) {β β':Nat->Nat->(srG r hr).α} {c:(srG r hr).α} (h:∀ p' q',p'<K->q'<N -> β p' q'=if p'=p/\q'=q then (srG r hr).p (β' p' q') c else β' p' q'):Ph hr K N β T=(srG r hr).p (Ph hr K N β' T) ((srG r hr).m (gd hr (T.getD p []) q) c):=by
 unfold Ph;rw [(srG r hr).sum_congr (g:=fun p'=>(srG r hr).p ((srG r hr).sum (List.range N) fun q'=>(srG r hr).m (gd hr (T.getD p' []) q') (β' p' q')) ((srG r hr).sum (List.range N) fun q'=>if p'=p/\q'=q then (srG r hr).m (gd hr (T.getD p []) q) c else (srG r hr).z)) fun p' hp'=>?_]
 ·rw [SR.sum_add,zon _ hp hq]
 ·rw [<- SR.sum_add];refine (srG r hr).sum_congr fun q' hq'=>?_;rw [h p' q' (yky.1 hp') (yky.1 hq')];by_cases e:p'=p/\q'=q
  ·rw [yj9 e,yj9 e,(srG r hr).mp,e.1,e.2]
  ·rw [yj8 e,yj8 e,(srG r hr).pz]
theorem z8p {K N:Nat} (T:List (List GW)) {β β':Nat->Nat->(srG r hr).α} (h:∀ p q,p<K->q<N -> β p q = β' p q):Ph hr K N β T=Ph hr K N β' T:=by unfold Ph;refine (srG r hr).sum_congr fun p hp=>(srG r hr).sum_congr fun q hq=>?_;rw [h p q (yky.1 hp) (yky.1 hq)]
end
section
variable {r:GRing} (hr:r.ok=true) {t:GTrans} (ht:ckT r t) {wx wy:List Int}
abbrev plN (wx wy:List Int):Nat:=(wx.length+1)*(wy.length+1)
theorem zur {i k:Nat} (hi:i<=wx.length) (hk:k<=wy.length):i*(wy.length+1)+k<plN wx wy:=by have:(i+1)*(wy.length+1)<=(wx.length+1)*(wy.length+1):=ykd _ (by omega);rw [yks] at this;unfold plN; omega
theorem zxy {i k:Nat} {x:GTArc} (h:fitT wx wy i k x) (hi:i<=wx.length) (hk:k<=wy.length):i+stp x.i<=wx.length/\k+stp x.o<=wy.length:=by
 obtain ⟨h1,h2⟩:=h;unfold stp;constructor
 ·split
  ·omega
  ·rename_i h0;have:=(ym4.1 (h1.resolve_left h0)).1;omega
 ·split
  ·omega
  ·rename_i h0;have:=(ym4.1 (h2.resolve_left h0)).1;omega
include ht hr in
theorem yjl {T:List (List GW)} (h:zcc r (plN wx wy) t.st.toNat T) {i k q:Nat} (hi:i<=wx.length) (hk:k<=wy.length) {w:GW} (hw:w.chk r) {x:GTArc} (hx:x∈t.arcs):zcc r (plN wx wy) t.st.toNat (arT r wx wy i k q w T x):=by
 unfold arT;split
 ·rename_i hc;have hin:=zxy hc.2 hi hk;exact yge hr h (zur hin.1 hin.2) (za7 hw (ht.arcs x hx).1)
 ·exact h
theorem yga {T:List (List GW)} (h:zcc r (plN wx wy) t.st.toNat T) {i k q:Nat} (hi:i<=wx.length) (hk:k<=wy.length) {w:GW} (hw:w.chk r) (β : Nat->Nat->(srG r hr).α) {x:GTArc} (hx:x.w.chk r/\x.fit t.st.toNat) :
  Ph hr (plN wx wy) t.st.toNat β (arT r wx wy i k q w T x)=(srG r hr).p (Ph hr (plN wx wy) t.st.toNat β T) (if x.f.toNat=q/\fitT wx wy i k x then (srG r hr).m (cw hr w) ((srG r hr).m (cw hr x.w) (β ((i+stp x.i)*(wy.length+1)+(k+stp x.o)) x.t.toNat)) else (srG r hr).z):=by
 unfold arT;split
 ·rename_i hc;have hin:=zxy hc.2 hi hk;obtain ⟨a1,⟨a2,a3⟩,a4,a5⟩:=hx;rw [yjn hr h (zur hin.1 hin.2) (by omega) (za7 hw a1),zrf hr hw a1,(srG r hr).ma]
 ·exact ((srG r hr).pz _).symm
include ht in
theorem zvx {i k q:Nat} (hi:i<=wx.length) (hk:k<=wy.length) {w:GW} (hw:w.chk r) (β : Nat->Nat->(srG r hr).α):∀ {l:List GTArc} {T:List (List GW)},(∀ x∈l,x∈t.arcs)->zcc r (plN wx wy) t.st.toNat T ->
  zcc r (plN wx wy) t.st.toNat (l.foldl (arT r wx wy i k q w) T)/\Ph hr (plN wx wy) t.st.toNat β (l.foldl (arT r wx wy i k q w) T)=(srG r hr).p (Ph hr (plN wx wy) t.st.toNat β T) ((srG r hr).m (cw hr w) ((srG r hr).sum l fun x=>if x.f.toNat=q/\fitT wx wy i k x then (srG r hr).m (cw hr x.w) (β ((i+stp x.i)*(wy.length+1)+(k+stp x.o)) x.t.toNat) else (srG r hr).z))
 | [],T,_,h=>⟨h,by rw [SR.sum_nil,(srG r hr).mz,(srG r hr).pz]; rfl⟩
 | x::l,T,hl,h=>by
  have hx:=hl x yl6;have h1:=yjl hr ht h hi hk (q:=q) hw hx;obtain ⟨i1,i2⟩:=zvx hi hk hw β (fun y hy=>hl y (ykq _ hy)) h1;refine ⟨i1,?_⟩;rw [yna,i2,yga hr h hi hk hw β (ht.arcs x hx),(srG r hr).pa,SR.sum_cons,(srG r hr).mp]
  congr 2
  split
  ·rfl
  ·rw [(srG r hr).mz]
noncomputable def coB (t:GTrans) (wx wy:List Int) (p q:Nat):(srG r hr).α := gd hr (tabW t wx wy (p / (wy.length+1)) (p % (wy.length+1))) q
noncomputable def coF (t:GTrans) (wx wy:List Int) (p q:Nat):(srG r hr).α := if p+1=plN wx wy then gd hr t.fin q else (srG r hr).z
noncomputable def co (t:GTrans) (wx wy:List Int) (p0:Nat) (pre:List Nat) (p q:Nat):(srG r hr).α := if p<p0\/(p=p0/\q∈pre) then coF hr t wx wy p q else coB hr t wx wy p q
theorem z4d {i k:Nat} (hk:k<=wy.length) (q:Nat):coB hr t wx wy (i*(wy.length+1)+k) q=gd hr (tabW t wx wy i k) q:=by unfold coB;rw [ykz i,Nat.mul_add_div (by omega),yn5 (show k<wy.length+1 by omega),Nat.mul_add_mod,ylo (show k<wy.length+1 by omega),ylb]
include ht in
theorem yf5 {i k:Nat} (hi:i<=wx.length) (hk:k<=wy.length) (q:Nat):coF hr t wx wy (i*(wy.length+1)+k) q=gd hr (zep t wx wy i k) q:=by
 unfold coF zep;have hiff:i*(wy.length+1)+k+1=plN wx wy ↔ i=wx.length/\k=wy.length:=by
  constructor
  ·intro h;unfold plN at h;rw [yks] at h;have hi2:¬ i<wx.length:=fun hlt=>by have:=ykd (wy.length+1) (yns hlt);rw [yks] at this;omega
   have:i=wx.length:=by omega
   subst this;omega
  ·rintro ⟨rfl,rfl⟩;unfold plN; rw [yks]; omega
 by_cases h:i=wx.length/\k=wy.length
 ·rw [yj9 (hiff.2 h),yj9 h]
 ·rw [yj8 fun h'=>h (hiff.1 h'),yj8 h,ht.ring,zxs]
end
def hpOk (ks:List Nat) (hp:List Site):Bool:=hp.all fun q=>q.2.all (zqf ks)
def HSp (P:Program) (f:FuncId) (vs:List AV) (hp:List Site) (v:AV) (hp':List Site):Prop :=
 (∃ fn,P.funcs[f]?=some fn/\fn.body.isSome=true/\fn.name ≠ "runtime.NumGoroutine") /\
 ∀ (Z:Cz) (w:World) (vals:List Value),HRep ⟨w,Z.M,ownB Z ⟨[],hp⟩,0⟩ Z ⟨[],hp⟩ w->AReps Z ⟨[],hp⟩ vs vals ->
  Calls P f vals.toArray w fun e w'=>∃ x Z',e=.returned x/\HRep ⟨w,Z.M,ownB Z ⟨[],hp⟩,0⟩ Z' ⟨[],hp'⟩ w'/\ARep Z' ⟨[],hp'⟩ v x/\ZLe Z ⟨[],hp⟩ Z' ⟨[],hp'⟩
section
variable {P:Program} {K:Ctx} {Z Z' Z2:Cz} {st st' st1 st2:St} {w w':World} {a:Act} {N:Nat} {A B:Option FA} {Post:Exit->St->Option FA->Prop} {PostI:St->Option FA->Prop} {ks:List Nat} {v:AV}
theorem zuk {u:AV} (h:zgv ks u=true):zbp ks u.cells=true:=by
 cases u with
 | p p =>
  cases p with
  | agg cs=>simp only [AV.cells,zfs,List.all_map,yl8,ymt,zgv,implies_true]
  | _=>rfl
 | agg cs=>exact h
 | _=>simp only [AV.cells,zbp,h,Bool.and_self]
theorem zul {es:List AV} (h:zbp ks es=true):zbp ks (es.flatMap AV.cells)=true:=by simp only [zfs,yl8] at h ⊢;intro c hc;obtain ⟨e,he,hc⟩:=yln.1 hc;have:=zuk (h e he);rw [zfs,yl8] at this;exact this c hc
mutual
theorem ARep.into (hs:∀ s,ks.contains s=true->st2.site s=st.site s) (hM:∀ b o,Z.M b=some o->Z2.M b=some o) (hB:∀ s g,ks.contains s=true->Z2.B s g=Z.B s g/\Z2.cap s g=Z.cap s g):∀ {u:AV} {x:Value},ARep Z st u x->zgv ks u=true->ARep Z2 st2 u x
 | _,_,.p u x hp,_=>.p u x (PRep.mono hM hp)
 | _,_,.nil,_=>.nil
 | _,_,.own0 s g o ho hb,h=>.own0 s g o (by rw [zag (hs s h)]; exact ho) (by rw [(hB s g h).1]; exact hb)
 | _,_,.own s g off len o b ad c ho hb h1 h2 h3 h4,h=>.own s g off len o b ad c (by rw [zag (hs s h)]; exact ho) (by rw [(hB s g h).1]; exact hb) (by rw [(hB s g h).2]; exact h1) h2 h3 h4
 | _,_,.ownD s g off len ad c hg hd,h=>.ownD s g off len ad c (by rw [hs s h]; exact hg) (by rw [zag (hs s h)]; exact hd)
 | _,_,.ptr s g ix off o b ho hb,h=>.ptr s g ix off o b (by rw [zag (hs s h)]; exact ho) (by rw [(hB s g h).1]; exact hb)
 | _,_,.ptrD s g ix off ad hg hd,h=>.ptrD s g ix off ad (by rw [hs s h]; exact hg) (by rw [zag (hs s h)]; exact hd)
 | _,_,.cp u vsz off b o cur T fr vals h0 h1 h2 h3 h4 h5,_=>.cp u vsz off b o cur T fr vals (hM _ _ h0) h1 h2 h3 (PReps.mono hM h4) h5
 | _,_,.agg cs vals h1 h2,h=>.agg cs vals h1 (AReps.into hs hM hB h2 h)
 | _,_,.fn f caps vals h1,h=>.fn f caps vals (AReps.into hs hM hB h1 h)
 | _,_,.tup vs vals h1,h=>.tup vs vals (AReps.into hs hM hB h1 h)
 | _,_,.skip,_=>.skip
 | _,_,.undef x,_=>.undef x
theorem AReps.into (hs:∀ s,ks.contains s=true->st2.site s=st.site s) (hM:∀ b o,Z.M b=some o->Z2.M b=some o) (hB:∀ s g,ks.contains s=true->Z2.B s g=Z.B s g/\Z2.cap s g=Z.cap s g):∀ {u:List AV} {x:List Value},AReps Z st u x->zbp ks u=true->AReps Z2 st2 u x
 | _,_,.nil,_=>.nil
 | _,_,.cons u x us xs h1 h2,h=>by simp only [zbp,ykx] at h;exact .cons _ _ _ _ (ARep.into hs hM hB h1 h.1) (AReps.into hs hM hB h2 h.2)
end
theorem ORep.into (hs:∀ s,ks.contains s=true->st2.site s=st.site s) (hM:∀ b o,Z.M b=some o->Z2.M b=some o) (hB:∀ s g,ks.contains s=true->Z2.B s g=Z.B s g/\Z2.cap s g=Z.cap s g) {s g:Nat} {o:AObj} (hk:ks.contains s=true) (hr:zbp ks o.es=true)
  (h:ORep Z st w s g o):ORep Z2 st2 w s g o:=by
 refine ⟨h.pos,h.els,h.one,fun hn=>h.non (by rw [<- (hB s g hk).1]; exact hn),fun b hb=>?_⟩;rw [(hB s g hk).1] at hb;obtain ⟨cur,T,vals,k1,k2,k3,k4,k5,k6⟩:=h.blk b hb;rw [(hB s g hk).2];exact ⟨cur,T,vals,k1,AReps.into hs hM hB k2 (zul hr),k3,k4,k5,k6⟩
theorem zhd {hp:List Site} {s:Nat} (h:(hp.map (·.1)).contains s=false):look hp s []=[]:=by
 rcases zji (d:=([]:List (Option AObj))) (l:=hp) (s:=s) with h1|⟨q,h1,rfl,_⟩
 ·exact h1
 ·exfalso;have:=yn2.2 (yk4.2 ⟨q,h1,rfl⟩:q.1∈hp.map (·.1));rw [h] at this; cases this
theorem zxj {hp r:List Site} {s:Nat}:look (hp++r) s []=if (hp.map (·.1)).contains s=true then look hp s [] else look r s []:=by
 induction hp with
 | nil=>simp
 | cons q l ih =>
  obtain ⟨k,x⟩:=q;simp only [ymj,look,yke];by_cases h:k=s
  ·subst h; simp
  ·rw [yj8 h,yj8 h,ih];have:(k::l.map (·.1)).contains s=(l.map (·.1)).contains s:=by simp [List.contains_cons,ykt h]
   rw [this]
theorem zq7 {hp:List Site} (h:hpOk ks hp=true) {s g:Nat} {o:AObj} (ho:(⟨[],hp⟩:St).obj s g=some o):zbp ks o.es=true:=by
 rcases zji (d:=([]:List (Option AObj))) (l:=hp) (s:=s) with h1|⟨q,h1,_,h3⟩
 ·simp [St.obj,St.site,h1] at ho
 ·have:=yl8.1 (yl8.1 h q h1);simp only [St.obj,St.site,h3] at ho;cases hg:q.2[g]? with
  | none=>rw [hg] at ho; cases ho
  | some x =>
   rw [hg] at ho;simp only [yn4] at ho;subst ho;exact this _ (ymh hg)
theorem Later.put (hh:Later Z st w Z' st' w') (d:Option Nat) (v:AV):Later Z st w Z' (st'.put d v) w' :=
 hh.trans ⟨fun _ _ h=>h,fun r hr=>⟨⟨hr.m,fun s g o ho=>hr.o s g o (by rw [<- ho]; exact (ya0 st' d v s g).symm),hr.lt⟩,rfl⟩,.of_zle (zbh (fun i=>za1 _ _ _ i) _)⟩
def zog (st:St) (hp:List Site):List Site->Prop
 | []=>True
 | q::r=>st.site q.1=look hp q.1 []/\zog st hp r
theorem zny {hp:List Site}:∀ {r:List Site},zog st hp r->∀ q∈r,st.site q.1=look hp q.1 []
 | q::r,h,x,hx=>by
  rcases yk5.1 hx with rfl|hx
  ·exact h.1
  ·exact zny h.2 x hx
theorem zzy {hp hp':List Site} {x:Value} (hks:hp'.map (·.1)=hp.map (·.1)) (hsite:∀ s,(hp.map (·.1)).contains s=true->st.site s=look hp s []) (hr1:hpOk (hp.map (·.1)) hp'=true) (hr2:zgv (hp.map (·.1)) v=true)
  (hs:HRep K Z st w) (hH:HRep ⟨w,Z.M,ownB Z ⟨[],hp⟩,0⟩ Z' ⟨[],hp'⟩ w') (hx:ARep Z' ⟨[],hp'⟩ v x) (hz:ZLe Z ⟨[],hp⟩ Z' ⟨[],hp'⟩) :
  ∃ Z2,HRep K Z2 ⟨st.sl,hp'++st.hp⟩ w'/\ARep Z2 ⟨st.sl,hp'++st.hp⟩ v x/\ZLe Z st Z2 ⟨st.sl,hp'++st.hp⟩/\Later Z st w Z2 ⟨st.sl,hp'++st.hp⟩ w':=by
 generalize hK:hp.map (·.1)=ks at *
 have s1:∀ s,ks.contains s=true->(⟨st.sl,hp'++st.hp⟩:St).site s=(⟨[],hp'⟩:St).site s:=fun s h=>by simp only [St.site,zxj,hks,h,yk0]
 have s2:∀ s,ks.contains s=false->(⟨st.sl,hp'++st.hp⟩:St).site s=st.site s:=fun s h=>by simp only [St.site,zxj,hks,h,ykf,yk7]
 have s0:∀ s,ks.contains s=true->st.site s=(⟨[],hp⟩:St).site s:=hsite;have e0:∀ s,ks.contains s=false->(⟨[],hp⟩:St).site s=[]:=fun s h=>zhd (by rw [hK]; exact h);have e1:∀ s,ks.contains s=false->(⟨[],hp'⟩:St).site s=[]:=fun s h=>zhd (by rw [hks]; exact h);have k1:∀ {s g o},(⟨[],hp'⟩:St).obj s g=some o->ks.contains s=true:=fun {s g o} ho=>by
  cases h:ks.contains s with
  | true=>rfl
  | false=>simp [St.obj,e1 s h] at ho
 have o0:∀ {s g o},ks.contains s=true->st.obj s g=some o->(⟨[],hp⟩:St).obj s g=some o:=fun {s g o} h ho=>by rw [zag (s0 s h)] at ho; exact ho
 have own0:∀ b,ownB Z ⟨[],hp⟩ b->∃ s g o,ks.contains s=true/\st.obj s g=some o/\Z.B s g=some b:=fun b ⟨s,g,o,ho,hb⟩=>by
  cases h:ks.contains s with
  | true=>exact ⟨s,g,o,rfl.trans h,by rw [zag (s0 s h)]; exact ho,hb⟩
  | false=>simp [St.obj,e0 s h] at ho
 let Z2:Cz:=⟨Z'.M,fun s g=>if ks.contains s=true then Z'.B s g else Z.B s g,fun s g=>if ks.contains s=true then Z'.cap s g else Z.cap s g⟩
 have B1:∀ s g,ks.contains s=true->Z2.B s g=Z'.B s g/\Z2.cap s g=Z'.cap s g:=fun s g h=>by simp only [Z2,h,yk0,and_self]
 have B2:∀ s g,ks.contains s=false->Z2.B s g=Z.B s g/\Z2.cap s g=Z.cap s g:=fun s g h=>by simp only [Z2,h,ykf,yk7,and_self]
 have hM:∀ b o,Z.M b=some o->Z'.M b=some o:=hH.m0;have hzl:ZLe Z st Z2 ⟨st.sl,hp'++st.hp⟩:=by
  refine ⟨hM,fun s=>?_,fun s g hg hd=>?_,fun s g o ho=>?_⟩<;>cases h:ks.contains s
  ·rw [s2 s h]; exact yk6 _
  ·rw [s1 s h,s0 s h]; exact hz.len s
  ·rw [zag (s2 s h)]; exact hd
  ·rw [zag (s1 s h)]; exact hz.dead s g (by rw [<- s0 s h]; exact hg) (by rw [<- zag (s0 s h)]; exact hd)
  ·exact .inr ⟨o,by rw [zag (s2 s h)]; exact ho,rfl,rfl,(B2 s g h).1,(B2 s g h).2⟩
  ·rw [zag (s1 s h),(B1 s g h).1,(B1 s g h).2]; exact hz.live s g o (o0 h ho)
 have far:∀ {s g o b},ks.contains s=false->st.obj s g=some o->Z.B s g=some b->¬ ownB Z ⟨[],hp⟩ b/\b<w.heap.size:=fun {s g o b} h ho hb=>by refine ⟨fun hx=>?_,hs.lt ho hb⟩;obtain ⟨s3,g3,o3,c1,c2,c3⟩:=own0 b hx;obtain ⟨rfl,rfl⟩:=hs.inj _ _ _ _ _ _ b ho c2 hb c3;rw [h] at c1; cases c1
 have hh:HRep K Z2 ⟨st.sl,hp'++st.hp⟩ w':=by
  have hk0:=hH.keep;refine ⟨fun s g o ho=>?_,fun s g s' g' o o' b a1 a2 b1 b2=>?_,hH.mem,fun s g o b a1 b1=>?_,fun s g o b a1 b1=>?_,fun b o hb=>hM b o (hs.m0 b o hb),fun b o hb=>?_,?_⟩
  ·cases h:ks.contains s with
   | true =>
    rw [zag (s1 s h)] at ho;exact ORep.into (Z:=Z') (Z2:=Z2) s1 (fun _ _ h=>h) B1 h (zq7 hr1 ho) (hH.objs s g o ho)
   | false =>
    rw [zag (s2 s h)] at ho;exact (hs.objs s g o ho).later hzl (B2 s g h).1 (B2 s g h).2 fun b hb=>hk0.blk b (far h ho hb).2 (far h ho hb).1
  ·cases h:ks.contains s<;>cases h':ks.contains s'
   ·rw [zag (s2 _ h)] at a1; rw [zag (s2 _ h')] at a2; rw [(B2 _ _ h).1] at b1; rw [(B2 _ _ h').1] at b2;exact hs.inj _ _ _ _ _ _ b a1 a2 b1 b2
   ·rw [zag (s2 _ h)] at a1; rw [zag (s1 _ h')] at a2; rw [(B2 _ _ h).1] at b1; rw [(B1 _ _ h').1] at b2;have f:=far h a1 b1;rcases hH.own _ _ _ b a2 b2 with c|c
    ·exact absurd c f.1
    ·have c':w.heap.size<=b:=c;omega
   ·rw [zag (s1 _ h)] at a1; rw [zag (s2 _ h')] at a2; rw [(B1 _ _ h).1] at b1; rw [(B2 _ _ h').1] at b2;have f:=far h' a2 b2;rcases hH.own _ _ _ b a1 b1 with c|c
    ·exact absurd c f.1
    ·have c':w.heap.size<=b:=c;omega
   ·rw [zag (s1 _ h)] at a1; rw [zag (s1 _ h')] at a2; rw [(B1 _ _ h).1] at b1; rw [(B1 _ _ h').1] at b2;exact hH.inj _ _ _ _ _ _ b a1 a2 b1 b2
  ·cases h:ks.contains s
   ·rw [zag (s2 _ h)] at a1; rw [(B2 _ _ h).1] at b1;have f:=far h a1 b1;cases hm:Z'.M b with
    | none=>rfl
    | some y =>
     exfalso;rcases hH.prov b y hm with c|c|c
     ·have c':Z.M b=some y:=c;rw [hs.sep _ _ _ b a1 b1] at c'; cases c'
     ·exact f.1 c
     ·have c':w.heap.size<=b:=c;omega
   ·rw [zag (s1 _ h)] at a1; rw [(B1 _ _ h).1] at b1;exact hH.sep _ _ _ b a1 b1
  ·have old:∀ b,ownB Z ⟨[],hp⟩ b->K.X0 b\/K.w0.heap.size<=b:=fun b hx=>by obtain ⟨s3,g3,o3,_,c2,c3⟩:=own0 b hx;exact hs.own _ _ _ b c2 c3
   cases h:ks.contains s
   ·rw [zag (s2 _ h)] at a1; rw [(B2 _ _ h).1] at b1;exact hs.own _ _ _ b a1 b1
   ·rw [zag (s1 _ h)] at a1; rw [(B1 _ _ h).1] at b1;rcases hH.own _ _ _ b a1 b1 with c|c
    ·exact old b c
    ·exact .inr (yka hs.keep.size c)
  ·rcases hH.prov b o hb with c|c|c
   ·exact hs.prov b o c
   ·obtain ⟨s3,g3,o3,_,c2,c3⟩:=own0 b c;exact .inr (hs.own _ _ _ b c2 c3)
   ·exact .inr (.inr (yka hs.keep.size c))
  ·have k1:=hs.keep;refine ⟨hk0.os.trans k1.os,hk0.tape.trans k1.tape,hk0.output.trans k1.output,yka k1.drawn hk0.drawn,yka k1.size hk0.size,fun b hb hx=>?_⟩;rw [hk0.blk b (ykc hb k1.size) (fun h=>?_),k1.blk b hb hx];obtain ⟨s3,g3,o3,_,c2,c3⟩:=own0 b h;rcases hs.own _ _ _ b c2 c3 with c|c
   ·exact hx c
   ·omega
 refine ⟨Z2,hh,ARep.into (Z:=Z') (Z2:=Z2) s1 (fun _ _ h=>h) B1 hx hr2,hzl,⟨hM,fun r hr=>?_,.of_zle hzl⟩⟩;have hno:¬ ownB Z ⟨[],hp⟩ r:=fun hx=>by obtain ⟨s3,g3,o3,_,c2,c3⟩:=own0 r hx;exact hr.o _ _ _ c2 c3
 refine ⟨⟨?_,fun s g o a1 b1=>?_,ykc hr.lt hH.keep.size⟩,hH.keep.blk r hr.lt hno⟩
 ·show Z'.M r=none;cases hm:Z'.M r with
  | none=>rfl
  | some y =>
   exfalso;rcases hH.prov r y hm with c|c|c
   ·have c':Z.M r=some y:=c;rw [hr.m] at c'; cases c'
   ·exact hno c
   ·have c':w.heap.size<=r:=c;have:=hr.lt; omega
 ·cases h:ks.contains s
  ·rw [zag (s2 _ h)] at a1; rw [(B2 _ _ h).1] at b1;exact hr.o _ _ _ a1 b1
  ·rw [zag (s1 _ h)] at a1; rw [(B1 _ _ h).1] at b1;rcases hH.own _ _ _ r a1 b1 with c|c
   ·exact hno c
   ·have c':w.heap.size<=r:=c;have:=hr.lt; omega
theorem z4k {hp:List Site} (hsite:∀ s,(hp.map (·.1)).contains s=true->st.site s=look hp s []) (hr:hpOk (hp.map (·.1)) hp=true) (hs:HRep K Z st w):HRep ⟨w,Z.M,ownB Z ⟨[],hp⟩,0⟩ Z ⟨[],hp⟩ w:=by
 have k0:∀ {s g o},(⟨[],hp⟩:St).obj s g=some o->(hp.map (·.1)).contains s=true:=fun {s g o} ho=>by
  cases h:(hp.map (·.1)).contains s with
  | true=>rfl
  | false=>simp [St.obj,St.site,zhd h] at ho
 have o0:∀ {s g o},(⟨[],hp⟩:St).obj s g=some o->st.obj s g=some o:=fun {s g o} ho=>by rw [zag (st2:=st) (st:=⟨[],hp⟩) (hsite s (k0 ho))]; exact ho
 exact ⟨fun s g o ho=>ORep.into (st:=st) (st2:=⟨[],hp⟩) (Z2:=Z) (fun s h=>(hsite s h).symm) (fun _ _ h=>h) (fun _ _ _=>⟨rfl,rfl⟩) (k0 ho) (zq7 hr ho) (hs.objs s g o (o0 ho)),fun s g s' g' o o' b a1 a2=>hs.inj s g s' g' o o' b (o0 a1) (o0 a2),hs.mem,fun s g o b a1=>hs.sep s g o b (o0 a1),
  fun s g o b a1 b1=>.inl ⟨s,g,o,a1,b1⟩,fun _ _ h=>h,fun _ _ h=>.inl h,Keep.refl w _⟩
theorem zss {d:Option Nat} {f:FuncId} {xs:List Opd} {vs:List AV} {hp hp':List Site} (hsp:HSp P f vs hp v hp') (hxs:xs.map st.ev=vs) (hk:zog st hp hp) (hks:hp'.map (·.1)=hp.map (·.1))
  (hr:(zbp (hp.map (·.1)) vs&&hpOk (hp.map (·.1)) hp&&zgv (hp.map (·.1)) v&&hpOk (hp.map (·.1)) hp')=true) (k:PostI ((⟨st.sl,hp'++st.hp⟩:St).put d v) A):MOp P N ⟨d,.call f xs,none⟩ st A PostI:=by
 intro ops j o K Z w a Q Kt hN hj hcc hs hA hK;obtain ⟨h1,h2,h3,h4⟩:=zcw hcc;obtain ⟨cc,h,hop,hf,hh,hops⟩:=zkp h1;have hg:o.guard=none:=by
  cases hg:o.guard with
  | none=>rfl
  | some jb =>
   obtain ⟨j,b⟩:=jb;rw [hg] at h2; simp only [zdb] at h2;split at h2<;>cases h2
 have hw:Region.wanted o (yielded ops a.tmps)=true:=by simp [Region.wanted,hg]
 have hd:d=o.dst:=h3;obtain ⟨hfn,hsp⟩:=hsp;have hrr:=zif hops hs;rw [hxs] at hrr;have hfr:=zap hh hs;simp only [St.ev] at hfr;have hfv:a.eval h=.func (.func f) #[] #[]:=by
  have hp:=hfr.inv_p;generalize a.eval h=F at hp ⊢;cases hp with
  | fn _ _ vals h=>cases h; rfl
 have hrun:(execOp a.eval o).run P w=.ok (.enter f ((cc.args.toList.map a.eval).toArray)) w:=by
  have:=zfc (P:=P) (w:=w) (args:=(cc.args.toList.map a.eval).toArray) hfn;simp only [execOp,hop,resolve,hf,hfv,Deferred.ofValue,yku,yl0,yl7,invoke];have e : #[]++cc.args.map a.eval ++ #[]=(cc.args.toList.map a.eval).toArray:=by simp [<- Array.toList_map]
  rw [e]; exact this
 simp only [ykx] at hr;obtain ⟨⟨⟨r1,r2⟩,r3⟩,r4⟩:=hr;have hsite:∀ s,(hp.map (·.1)).contains s=true->st.site s=look hp s []:=fun s hs=>by obtain ⟨q,hq,rfl⟩:=yk4.1 (yn2.1 hs);exact zny hk q hq
 refine (show o.wp P a w Kt Q from ?_) |> fun h=>by unfold wpOp; simp only [hj,hw,yk0]; exact .inl h
 unfold Oper.wp;rw [hrun,yo1];refine (hsp Z w _ (z4k hsite r2 hs.heap) (AReps.into (st:=st) (st2:=⟨[],hp⟩) (Z2:=Z) (fun s h=>(hsite s h).symm) (fun _ _ h=>h) (fun _ _ _=>⟨rfl,rfl⟩) hrr r1)).mono ?_;rintro e w' ⟨x,Z',rfl,p1,p2,p3⟩;obtain ⟨Z2,q1,q2,q3,q4⟩:=zzy hks hsite r4 r3 hs.heap p1 p2 p3;refine hK _ _ Z2 _ _ k ?_ (hA.later (q4.put _ _));rw [hd];exact hs.put rfl q3 q1 q2 (by subst hN; exact h4) hs.defers
def zea:Nat->List AV->List (Nat × AV)
 | _,[]=>[]
 | i,v::r=>(i,v)::zea (i+1) r
theorem zpa:∀ (args:List AV) (i t:Nat),look (zea i args) t AV.undef=if t<i then .undef else (args[t - i]?).getD .undef
 | [],i,t=>by simp [zea,look]
 | v::r,i,t=>by
  simp only [zea,look];split
  ·rename_i h; subst h; simp
  ·rename_i h;rw [zpa r (i+1) t];by_cases h1:t<i
   ·rw [yj9 (by omega),yj9 h1]
   ·rw [yj8 (by omega),yj8 h1];have:t - i=(t - (i+1))+1:=by omega
    rw [this]; rfl
def retH (rs:List (Nat × Option Nat)) (v:AV) (hp':List Site) (ex:Exit) (s:St):Prop :=
 (ex=.ret\/ex=.normal)/\∃ s1,Weak s s1/\∃ us,zbk s1 rs=some us/\resOf us=v/\zog s1 hp' hp'
theorem HSp.of_mr {f:FuncId} {vs:List AV} {hp hp':List Site} {n np:Nat} {b:GC} {rs:List (Nat × Option Nat)} (hc:zad P f=some ⟨n,np,b.er,rs⟩) (hn:vs.length<=n)
  (hpin:hp.all (fun q=>decide (PINB<=q.1)&&decide (q.1<999999))=true) (hks:hp'.map (·.1)=hp.map (·.1)) (hr:(zgv (hp.map (·.1)) v&&hpOk (hp.map (·.1)) hp')=true)
  (h:∀ A:FA,A.nb=true->MR P n b.er ⟨zea 0 vs,hp⟩ (some A) fun ex s B=>B=some A/\retH rs v hp' ex s):HSp P f vs hp v hp':=by
 unfold zad at hc;split at hc
 ·rename_i fn hf;split at hc
  ·rename_i hname;split at hc
   ·rename_i c hb;split at hc
    ·rename_i bd rs' h1 h2;simp only [yk1,FnC.mk.injEq] at hc;obtain ⟨rfl,_,rfl,rfl⟩:=hc;refine ⟨⟨fn,hf,by rw [hb]; rfl,hname⟩,fun Z w vals hH hv=>?_⟩;refine calls_of_wp hf hb ?_;have hl:=hv.length;have hsi:∀ s,(⟨zea 0 vs,hp⟩:St).site s=(⟨[],hp⟩:St).site s:=fun _=>rfl;have h0:StRep ⟨w,Z.M,ownB Z ⟨[],hp⟩,fn.ntmps⟩ Z ⟨zea 0 vs,hp⟩ w { tmps:=vals.toArray++Array.replicate (fn.ntmps - vals.toArray.size) Go.undef,defers:=[] }:=by
      refine ⟨fun t=>?_,rfl,by simp; omega,HRep.of_site ⟨hH.objs,hH.inj,hH.mem,hH.sep,hH.own,hH.m0,hH.prov,hH.keep⟩ hsi⟩;have hget:(⟨zea 0 vs,hp⟩:St).get t=(vs[t]?).getD .undef:=by have:=zpa vs 0 t;simpa [St.get] using this
      rw [hget];cases hx:vs[t]? with
      | none=>exact .undef _
      | some u =>
       obtain ⟨x,g1,g2⟩:=hv.get t u hx;have hlt:=(List.getElem?_eq_some_iff.1 g1).1;have:(vals.toArray++Array.replicate (fn.ntmps - vals.toArray.size) Go.undef).getD t Go.undef=x:=by simp [Array.getElem?_append,hlt];have:=(List.getElem?_eq_some_iff.1 g1).2;simpa using this
       rw [this];exact ARep.mono (zbh hsi Z) g2
     let A:FA:=⟨0,fun _ _=>True,fun _ _ _ _ h=>h,false,true,PinLe Z ⟨zea 0 vs,hp⟩,fun _ _ _ _ h k=>k.trans h⟩
     refine h A rfl c h1 _ _ w _ _ rfl h0 (PinLe.refl _ _) (fun ex st' A' Z' w' a' hp1 hs1 hA1=>?_);obtain ⟨rfl,hex,s1,hw,us,hus,hv1,hsite1⟩:=hp1;obtain ⟨Z1,hs2,hl2⟩:=hw.frame hs1;have hpl:PinLe Z ⟨zea 0 vs,hp⟩ Z1 s1:=PinLe.trans hA1 hl2.pin;simp only [ykx] at hr;have hsite:∀ s,(hp.map (·.1)).contains s=true->s1.site s=(⟨[],hp'⟩:St).site s:=fun s hs=>by rw [<- hks] at hs;obtain ⟨q,hq,rfl⟩:=yk4.1 (yn2.1 hs);exact zny hsite1 q hq
     have hpn:∀ s,(hp.map (·.1)).contains s=true->PINB<=s/\s<999999:=fun s hs=>by obtain ⟨q,hq,rfl⟩:=List.mem_map.1 (List.contains_iff_mem.1 hs);have:=List.all_eq_true.1 hpin q hq;simpa using this
     have e0:∀ s,(hp.map (·.1)).contains s=false->(⟨[],hp⟩:St).site s=[]:=fun s h=>zhd h;have e1:∀ s,(hp.map (·.1)).contains s=false->(⟨[],hp'⟩:St).site s=[]:=fun s h=>zhd (by rw [hks]; exact h);have hz:ZLe Z ⟨[],hp⟩ Z1 ⟨[],hp'⟩:=by
      refine ⟨fun b o hb=>hs2.heap.m0 b o hb,fun s=>?_,fun s g hg hd=>?_,fun s g o ho=>?_⟩<;>cases hc:(hp.map (·.1)).contains s
      ·rw [e0 s hc]; exact ylk _
      ·rw [<- hsite s hc]; exact hpl.len s (hpn s hc).1 (hpn s hc).2
      ·rw [e0 s hc] at hg; simp at hg
      ·rw [zag (hsite s hc).symm]; exact hpl.dead s g (hpn s hc).1 (hpn s hc).2 hg hd
      ·simp [St.obj,e0 s hc] at ho
      ·rw [zag (hsite s hc).symm]; exact hpl.live s g o (hpn s hc).1 (hpn s hc).2 ho
     have hH2:HRep ⟨w,Z.M,ownB Z ⟨[],hp⟩,0⟩ Z1 ⟨[],hp'⟩ w':=by
      have k0:∀ {s g o},(⟨[],hp'⟩:St).obj s g=some o->(hp.map (·.1)).contains s=true:=fun {s g o} ho=>by
       cases h:(hp.map (·.1)).contains s with
       | true=>rfl
       | false=>simp [St.obj,e1 s h] at ho
      have o0:∀ {s g o},(⟨[],hp'⟩:St).obj s g=some o->s1.obj s g=some o:=fun {s g o} ho=>by rw [zag (hsite s (k0 ho))]; exact ho
      have hq:=hs2.heap
      exact ⟨fun s g o ho=>ORep.into (st:=s1) (st2:=⟨[],hp'⟩) (Z2:=Z1) (fun s h=>(hsite s h).symm) (fun _ _ h=>h) (fun _ _ _=>⟨rfl,rfl⟩) (k0 ho) (zq7 hr.2 ho) (hq.objs s g o (o0 ho)),fun s g s' g' o o' b a1 a2=>hq.inj s g s' g' o o' b (o0 a1) (o0 a2),hq.mem,fun s g o b a1=>hq.sep s g o b (o0 a1),
       fun s g o b a1 b1=>hq.own s g o b (o0 a1) b1,hq.m0,hq.prov,hq.keep⟩
     have hfin:a'.defers=[]/\∃ u,(results fn a'.tmps).run P w'=.ok u w'/\∃ x Z',Ending.returned u=.returned x/\HRep ⟨w,Z.M,ownB Z ⟨[],hp⟩,0⟩ Z' ⟨[],hp'⟩ w'/\ARep Z' ⟨[],hp'⟩ v x/\ZLe Z ⟨[],hp⟩ Z' ⟨[],hp'⟩:=by obtain ⟨xs,g1,g2⟩:=zj8 hs2 h2 hus;have g3:=g2.resOf;rw [hv1] at g3;refine ⟨hs2.defers,_,?_,_,Z1,rfl,hH2,ARep.into (st:=s1) (st2:=⟨[],hp'⟩) (Z2:=Z1) (fun s h=>(hsite s h).symm) (fun _ _ h=>h) (fun _ _ _=>⟨rfl,rfl⟩) g3 hr.1,hz⟩;unfold results;rw [yno];simp only [yku,map_eq_pure_bind,yl0];exact congrArg (fun r=>(Result.andThen r fun a w'=>Result.ok a.toArray w').andThen fun (a:Array Value) w'=>Result.ok (if h:a.size=1 then a[0] else Value.tuple a) w') g1
     rcases hex with rfl|rfl
     ·exact hfin
     ·exact hfin
    ·cases hc
   ·cases hc
  ·cases hc
 ·cases hc
end
end Go.Ab
