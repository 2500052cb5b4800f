/-
Proofs for the law ProjectIdentityWeighs, part 42. Conditions: none.
-/
import Derived.Test.YtalcegbealdigaaGreatDoorBP41
set_option maxRecDepth 100000
set_option maxHeartbeats 4000000
set_option linter.all false
namespace Go.Ab
structure SR where
 α : Type
 z : α
 p : α -> α -> α
 m : α -> α -> α
 pc:∀ a b,p a b=p b a
 pa:∀ a b c,p (p a b) c=p a (p b c)
 pz:∀ a,p a z=a
 mc:∀ a b,m a b=m b a
 ma:∀ a b c,m (m a b) c=m a (m b c)
 mp:∀ a b c,m a (p b c)=p (m a b) (m a c)
 mz:∀ a,m a z=z
namespace SR
variable (S:SR) {β γ : Type}
def sum (l:List β) (f : β -> S.α):S.α := l.foldr (fun x s=>S.p (f x) s) S.z
theorem zp (a:S.α):S.p S.z a=a:=by rw [S.pc,S.pz]
theorem zm (a:S.α):S.m S.z a=S.z:=by rw [S.mc,S.mz]
theorem plc (a b c:S.α):S.p a (S.p b c)=S.p b (S.p a c):=by rw [<- S.pa,S.pc a b,S.pa]
theorem sum_nil (f : β -> S.α):S.sum [] f=S.z:=rfl
theorem sum_cons (x : β) (l:List β) (f : β -> S.α):S.sum (x::l) f=S.p (f x) (S.sum l f):=rfl
theorem sum_congr {l:List β} {f g : β -> S.α} (h:∀ x∈l,f x=g x):S.sum l f=S.sum l g:=by
 induction l with
 | nil=>rfl
 | cons x l ih=>rw [sum_cons,sum_cons,h x List.mem_cons_self,ih fun y hy=>h y (List.mem_cons_of_mem _ hy)]
theorem sum_append (l k:List β) (f : β -> S.α):S.sum (l++k) f=S.p (S.sum l f) (S.sum k f):=by
 induction l with
 | nil=>exact (S.zp _).symm
 | cons x l ih=>rw [List.cons_append,sum_cons,sum_cons,ih,S.pa]
theorem sum_zero (l:List β):S.sum l (fun _=>S.z)=S.z:=by
 induction l with
 | nil=>rfl
 | cons x l ih=>rw [sum_cons,ih,S.pz]
theorem z8a (l:List β) (f g : β -> S.α):S.sum l (fun x=>S.p (f x) (g x))=S.p (S.sum l f) (S.sum l g):=by
 induction l with
 | nil=>exact (S.pz _).symm
 | cons x l ih=>rw [sum_cons,sum_cons,sum_cons,ih,S.pa,S.pa,S.plc (g x)]
theorem zzw (l:List β) (a:S.α) (f : β -> S.α):S.sum l (fun x=>S.m a (f x))=S.m a (S.sum l f):=by
 induction l with
 | nil=>exact (S.mz _).symm
 | cons x l ih=>rw [sum_cons,sum_cons,ih,S.mp]
theorem zvw (l:List β) (k:List γ) (f : β -> γ -> S.α):S.sum l (fun x=>S.sum k fun y=>f x y)=S.sum k fun y=>S.sum l fun x=>f x y:=by
 induction l with
 | nil=>exact (S.sum_zero k).symm
 | cons x l ih=>rw [sum_cons,ih,<- z8a]; rfl
theorem sum_map (l:List γ) (g : γ -> β) (f : β -> S.α):S.sum (l.map g) f=S.sum l fun x=>f (g x):=by
 induction l with
 | nil=>rfl
 | cons x l ih=>rw [List.map_cons,sum_cons,sum_cons,ih]
theorem sum_range (n:Nat) (f:Nat->S.α):S.sum (List.range (n+1)) f=S.p (S.sum (List.range n) f) (f n):=by
 rw [List.range_succ,sum_append,sum_cons,sum_nil,S.pz]
theorem sum_delta {n t:Nat} (h:t<n) (g:Nat->S.α):S.sum (List.range n) (fun s=>if s=t then g s else S.z)=g t:=by
 induction n with
 | zero=>omega
 | succ n ih =>
  rw [sum_range]
  by_cases ht:t=n
  ·subst ht
   rw [if_pos rfl,S.sum_congr (g:=fun _=>S.z) fun s hs=>if_neg (by have:=List.mem_range.1 hs; omega),sum_zero,zp]
  ·rw [ih (by omega),if_neg (by omega),S.pz]
variable (F T : β -> Nat) (L : β -> Int) (W : β -> S.α) (A:List β)
def bw1 (c:Int) (b:Nat->S.α) (s:Nat):S.α := S.sum A fun x=>if F x=s/\L x=c then S.m (W x) (b (T x)) else S.z
def bw (fin:Nat->S.α):List Int->Nat->S.α
 | []=>fin
 | c::w=>bw1 S F T L W A c (bw fin w)
def fw1 (c:Int) (v:Nat->S.α) (t:Nat):S.α := S.sum A fun x=>if T x=t/\L x=c then S.m (v (F x)) (W x) else S.z
def fw:List Int->(Nat->S.α)->Nat->S.α
 | [],v=>v
 | c::w,v=>fw w (fw1 S F T L W A c v)
def dot (n:Nat) (v w:Nat->S.α):S.α := S.sum (List.range n) fun s=>S.m (v s) (w s)
variable {F T A}
theorem z6o {n:Nat} (hF:∀ x∈A,F x<n) (hT:∀ x∈A,T x<n) (c:Int) (v b:Nat->S.α):S.dot n (S.fw1 F T L W A c v) b=S.dot n v (S.bw1 F T L W A c b):=by
 have h1:S.dot n (S.fw1 F T L W A c v) b=S.sum A fun x=>if L x=c then S.m (S.m (v (F x)) (W x)) (b (T x)) else S.z:=by
  have:S.dot n (S.fw1 F T L W A c v) b=S.sum (List.range n) fun s=>S.sum A fun x=>if s=T x then (if L x=c then S.m (S.m (v (F x)) (W x)) (b s) else S.z) else S.z:=by
   refine S.sum_congr fun s _=>?_
   show S.m (S.sum A _) (b s)=_
   rw [S.mc,<- zzw]
   refine S.sum_congr fun x _=>?_
   by_cases h:T x=s
   ·by_cases h2:L x=c
    ·rw [if_pos ⟨h,h2⟩,if_pos h.symm,if_pos h2,S.mc]
    ·rw [if_neg fun h'=>h2 h'.2,if_pos h.symm,if_neg h2,S.mz]
   ·rw [if_neg fun h'=>h h'.1,if_neg (Ne.symm h),S.mz]
  rw [this,zvw]
  exact S.sum_congr fun x hx=>S.sum_delta (hT x hx) fun s=>if L x=c then S.m (S.m (v (F x)) (W x)) (b s) else S.z
 have h2:S.dot n v (S.bw1 F T L W A c b)=S.sum A fun x=>if L x=c then S.m (S.m (v (F x)) (W x)) (b (T x)) else S.z:=by
  have:S.dot n v (S.bw1 F T L W A c b)=S.sum (List.range n) fun s=>S.sum A fun x=>if s=F x then (if L x=c then S.m (S.m (v s) (W x)) (b (T x)) else S.z) else S.z:=by
   refine S.sum_congr fun s _=>?_
   show S.m (v s) (S.sum A _)=_
   rw [<- zzw]
   refine S.sum_congr fun x _=>?_
   by_cases h:F x=s
   ·by_cases h2:L x=c
    ·rw [if_pos ⟨h,h2⟩,if_pos h.symm,if_pos h2,S.ma]
    ·rw [if_neg fun h'=>h2 h'.2,if_pos h.symm,if_neg h2,S.mz]
   ·rw [if_neg fun h'=>h h'.1,if_neg (Ne.symm h),S.mz]
  rw [this,zvw]
  exact S.sum_congr fun x hx=>S.sum_delta (hF x hx) fun s=>if L x=c then S.m (S.m (v s) (W x)) (b (T x)) else S.z
 rw [h1,h2]
theorem dot_fw {n:Nat} (hF:∀ x∈A,F x<n) (hT:∀ x∈A,T x<n) (fin:Nat->S.α):∀ (w:List Int) (v:Nat->S.α),S.dot n (S.fw F T L W A w v) fin=S.dot n v (S.bw F T L W A fin w)
 | [],_=>rfl
 | c::w,v=>by
  show S.dot n (S.fw F T L W A w (S.fw1 F T L W A c v)) fin=S.dot n v (S.bw1 F T L W A c (S.bw F T L W A fin w))
  rw [dot_fw hF hT fin w,z6o S L W hF hT]
end SR
def CW (r:GRing):Type:={w:GW // w.chk r}
def srG (r:GRing) (hr:r.ok=true):SR where
 α := CW r
 z:=⟨r.zero,zbn hr⟩
 p a b:=⟨r.plus a.1 b.1,zbs a.2 b.2⟩
 m a b:=⟨r.times a.1 b.1,za3 a.2 b.2⟩
 pc a b:=Subtype.ext (zg3 a.2 b.2)
 pa a b c:=Subtype.ext (zdg a.2 b.2 c.2)
 pz a:=Subtype.ext (zci a.2)
 mc a b:=Subtype.ext (zxz a.2 b.2)
 ma a b c:=Subtype.ext (zt0 a.2 b.2 c.2)
 mp a b c:=Subtype.ext (zxy a.2 b.2 c.2)
 mz a:=Subtype.ext (zxx a.2)
section
variable {r:GRing} (hr:r.ok=true)
noncomputable def cw0 (w:GW):CW r:=@dite _ (w.chk r) (Classical.propDecidable _) (fun h=>⟨w,h⟩) fun _=>⟨r.zero,zbn hr⟩
noncomputable def cw (w:GW):(srG r hr).α := cw0 hr w
theorem zjk {w:GW} (h:w.chk r):(cw hr w).1=w:=by
 have e:cw0 hr w=⟨w,h⟩:=dif_pos h
 exact congrArg Subtype.val e
theorem zqx:cw hr r.zero=(srG r hr).z:=Subtype.ext (zjk hr (zbn hr))
theorem zqz {v w:GW} (hv:v.chk r) (hw:w.chk r):cw hr (r.plus v w)=(srG r hr).p (cw hr v) (cw hr w):=Subtype.ext (by
 rw [zjk hr (zbs hv hw)]
 show _=r.plus (cw hr v).1 (cw hr w).1
 rw [zjk hr hv,zjk hr hw])
theorem zqy {v w:GW} (hv:v.chk r) (hw:w.chk r):cw hr (r.times v w)=(srG r hr).m (cw hr v) (cw hr w):=Subtype.ext (by
 rw [zjk hr (za3 hv hw)]
 show _=r.times (cw hr v).1 (cw hr w).1
 rw [zjk hr hv,zjk hr hw])
theorem z7q {v w:GW} (hv:v.chk r) (hw:w.chk r) (h:cw hr v=cw hr w):v=w:=by rw [<- zjk hr hv,<- zjk hr hw,h]
noncomputable def gd (l:List GW) (s:Nat):(srG r hr).α := cw hr (l.getD s r.zero)
variable {α : Type} {key : α -> List Int} {wt : α -> GW} {up : α -> α -> α} (h:List Int->(srG r hr).α)
noncomputable def hs (key : α -> List Int) (wt : α -> GW) (l:List α):(srG r hr).α := (srG r hr).sum l fun x=>(srG r hr).m (cw hr (wt x)) (h (key x))
variable (hk:∀ z y,key (up z y)=key z) (hw:∀ z y,wt (up z y)=r.plus (wt z) (wt y))
include hk hw in
theorem z19 {x : α} (hx:(wt x).chk r):∀ {out:List α},(∀ z∈out,(wt z).chk r)->hs hr h key wt (insF key up id out x)=(srG r hr).p (hs hr h key wt out) ((srG r hr).m (cw hr (wt x)) (h (key x)))
 | [],_=>by
  show (srG r hr).p _ (srG r hr).z=(srG r hr).p (srG r hr).z _
  exact (srG r hr).pc _ _
 | z::o,ho=>by
  simp only [insF]
  split
  ·show (srG r hr).p _ (hs hr h key wt (insF key up id o x))=_
   rw [z19 hx fun y hy=>ho y (List.mem_cons_of_mem _ hy),<- (srG r hr).pa]; rfl
  ·split
   ·rename_i h1 h2
    show (srG r hr).p ((srG r hr).m (cw hr (wt (up z x))) (h (key (up z x)))) (hs hr h key wt o)=(srG r hr).p ((srG r hr).p ((srG r hr).m (cw hr (wt z)) (h (key z))) (hs hr h key wt o)) _
    rw [hk,hw,zqz hr (ho z List.mem_cons_self) hx,(srG r hr).mc _ (h (key z)),(srG r hr).mp,(srG r hr).mc (h (key z)),(srG r hr).mc (h (key z)),(srG r hr).pa,(srG r hr).pa,(srG r hr).pc (hs hr h key wt o),h2]
   ·exact (srG r hr).pc _ _
include hk hw in
theorem z7i {l:List α} (hl:∀ x∈l,(wt x).chk r):∀ n,n<=l.length->(∀ z∈nfm key up id (l.take n),(wt z).chk r)/\hs hr h key wt (nfm key up id (l.take n))=hs hr h key wt (l.take n)
 | 0,_=>⟨by simp [nfm],rfl⟩
 | n+1,hn=>by
  obtain ⟨i1,i2⟩:=z7i hl n (by omega)
  have hl2:n<l.length:=by omega
  have hx:=hl _ (List.getElem_mem hl2)
  rw [zcz hl2]
  refine ⟨fun z hz=>?_,?_⟩
  ·rcases zlk hz with h1|h1|⟨y,h1,h2⟩
   ·exact i1 z h1
   ·rw [h1]; exact hx
   ·rw [h2,hw]; exact zbs (i1 y h1) hx
  ·rw [z19 hr h hk hw hx i1,i2,List.take_succ_eq_append_getElem hl2]
   unfold hs
   rw [SR.sum_append,SR.sum_cons,SR.sum_nil,(srG r hr).pz]
theorem z2a (l:List α):hs hr h key wt (l.filter fun x => !decide (wt x=r.zero))=hs hr h key wt l:=by
 induction l with
 | nil=>rfl
 | cons x l ih =>
  by_cases hz:wt x=r.zero
  ·rw [List.filter_cons_of_neg (by simp [hz]),ih]
   show _=(srG r hr).p ((srG r hr).m (cw hr (wt x)) (h (key x))) (hs hr h key wt l)
   rw [hz,zqx,SR.zm,SR.zp]
  ·rw [List.filter_cons_of_pos (by simp [hz])]
   show (srG r hr).p _ (hs hr h key wt _)=(srG r hr).p _ (hs hr h key wt l)
   rw [ih]
include hk hw in
theorem ycf {l:List α} (hl:∀ x∈l,(wt x).chk r):hs hr h key wt (tid key wt r up l)=hs hr h key wt l:=by
 have hm:=(zqd (key:=key) (up:=up) (nw:=id) hk (fun _=>rfl) l)
 have hn:=z7i hr h hk hw hl l.length (Nat.le_refl _)
 rw [List.take_length] at hn
 unfold tid
 rw [z2a,show mrg key up id (srt key l)=nfm key up id l from hm.1]
 exact hn.2
end
end Go.Ab
namespace Go.Ab
section
variable {r:GRing} (hr:r.ok=true)
include hr in
theorem zgd {N:Nat} {l:List GW} (h:ckL r N l) (s:Nat):(l.getD s r.zero).chk r:=by
 rw [List.getD_eq_getElem?_getD]
 cases e:l[s]? with
 | none=>exact zbn hr
 | some w=>exact h.1 w (List.mem_of_getElem? e)
theorem zw8 (n s:Nat):gd hr (List.replicate n r.zero) s=(srG r hr).z:=by
 unfold gd
 have:(List.replicate n r.zero).getD s r.zero=r.zero:=by
  rw [List.getD_eq_getElem?_getD,List.getElem?_replicate]
  split<;>rfl
 rw [this,zqx]
theorem zs3 {l:List GW} {i s:Nat} (v:GW) (h:i≠s):gd hr (l.set i v) s=gd hr l s:=by
 unfold gd
 rw [List.getD_eq_getElem?_getD,List.getElem?_set_ne h,<- List.getD_eq_getElem?_getD]
theorem zm7 {l:List GW} {i:Nat} (v:GW) (h:i<l.length):gd hr (l.set i v) i=cw hr v:=by
 unfold gd
 rw [List.getD_eq_getElem?_getD,List.getElem?_set_self h]; rfl
noncomputable def ctr (p:GTArc->Option (List GW)) (s:Nat) (x:GTArc):(srG r hr).α := match p x with
 | some e=>if x.f.toNat=s then (srG r hr).m (cw hr x.w) (gd hr e x.t.toNat) else (srG r hr).z
 | none=>(srG r hr).z
theorem yae {N:Nat} {p:GTArc->Option (List GW)} {b:List GW} {x:GTArc} (hb:ckL r N b) (hx:okA r N p x) (s:Nat):gd hr (accS r p b x) s=(srG r hr).p (gd hr b s) (ctr hr p s x):=by
 unfold accS ctr
 cases h:p x with
 | none=>exact ((srG r hr).pz _).symm
 | some e =>
  obtain ⟨⟨a1,a2⟩,a3,a4⟩:=hx.2.1
  have he:=hx.2.2 e h
  show gd hr (addW r b x e) s=(srG r hr).p (gd hr b s) (if x.f.toNat=s then _ else _)
  unfold addW
  by_cases hs:x.f.toNat=s
  ·subst hs
   rw [if_pos rfl,zm7 hr _ (by rw [hb.2]; omega),zqz hr (zgd hr hb _) (za3 hx.1 (zgd hr he _)),zqy hr hx.1 (zgd hr he _)]
   rfl
  ·rw [if_neg hs,zs3 hr _ hs,(srG r hr).pz]
theorem z3o {N:Nat} {p:GTArc->Option (List GW)} (s:Nat):∀ {l:List GTArc} {b:List GW},ckL r N b->(∀ x∈l,okA r N p x)->gd hr (accW r p l b) s=(srG r hr).p (gd hr b s) ((srG r hr).sum l (ctr hr p s))
 | [],b,_,_=>((srG r hr).pz _).symm
 | x::l,b,hb,h=>by
  have hx:=h x List.mem_cons_self
  show gd hr (accW r p l (accS r p b x)) s=_
  rw [z3o s (zvf hb hx) fun y hy=>h y (List.mem_cons_of_mem _ hy),yae hr hb hx,SR.sum_cons,(srG r hr).pa]
theorem ztu {p:GTArc->Option (List GW)}:∀ {l:List GTArc} {b:List GW},(∀ x∈l,p x=none)->accW r p l b=b
 | [],_,_=>rfl
 | x::l,b,h=>by
  show accW r p l (accS r p b x)=b
  have:accS r p b x=b:=by unfold accS; rw [h x List.mem_cons_self]
  rw [this]; exact ztu fun y hy=>h y (List.mem_cons_of_mem _ hy)
theorem zz2 {l:List GTArc} (h:∀ x∈l,emF x=false) (b:List GW) (n:Nat):sprN r l b n=b:=by
 cases n with
 | zero=>rfl
 | succ n=>exact ztu fun x hx=>by unfold zee; rw [h x hx]; rfl
theorem zvv (t:GTrans):swap t t.inv:=⟨rfl,rfl,rfl,rfl,List.Perm.refl _⟩
theorem zpu {wx wy:List Int} {i k:Nat} {f:Nat->Nat->List GW} {x:GTArc} (h1:x.i=x.o) (h2:x.i≠0):zcm wx wy i k f x=if wx[i]?=some x.i/\wy[k]?=some x.i then some (f (i+1) (k+1)) else none:=by
 have e1:nx x.i wx i=if wx[i]?=some x.i then (i:Int)+1 else -1:=by unfold nx; rw [if_neg h2]
 have e2:nx x.o wy k=if wy[k]?=some x.i then (k:Int)+1 else -1:=by unfold nx; rw [if_neg (by rw [<- h1]; exact h2),h1]
 by_cases a:wx[i]?=some x.i
 ·rw [if_pos a] at e1
  by_cases b:wy[k]?=some x.i
  ·rw [if_pos b] at e2
   have e3:((i:Int)+1).toNat=i+1:=by omega
   have e4:((k:Int)+1).toNat=k+1:=by omega
   rw [if_pos ⟨a,b⟩]
   unfold zcm
   rw [e1,e2,if_pos (show 0<=(i:Int)+1/\0<=(k:Int)+1/\(i:Int)+k<(i:Int)+1+(k+1) from ⟨by omega,by omega,by omega⟩),e3,e4]
  ·rw [if_neg b] at e2
   rw [if_neg (fun h=>b h.2)]
   unfold zcm
   rw [e2,if_neg (fun h=>by have:=h.2.1; omega)]
 ·rw [if_neg a] at e1
  rw [if_neg (fun h=>a h.1)]
  unfold zcm
  rw [e1,if_neg (fun h=>by have:=h.1; omega)]
noncomputable def tF (x:GTArc):Nat:=x.f.toNat
noncomputable def tT (x:GTArc):Nat:=x.t.toNat
theorem znh {w w':List Int} {i:Nat} {c:Int} (h:w.drop i=c::w'):w[i]?=some c/\w.drop (i+1)=w'/\i<w.length:=by
 have h1:(w.drop i)[0]?=some c:=by rw [h]; rfl
 rw [List.getElem?_drop,Nat.add_zero] at h1
 refine ⟨h1,?_,(List.getElem?_eq_some_iff.1 h1).1⟩
 rw [<- List.tail_drop,h]; rfl
theorem drop_nil {w:List Int} {i:Nat} (h:w.drop i=[]) (hi:i<=w.length):i=w.length/\w[i]?=none:=by
 have:=List.drop_eq_nil_iff.1 h
 exact ⟨by omega,List.getElem?_eq_none (by omega)⟩
theorem z67 {u:GTrans} (ht:ckT r u) (hlab:∀ x∈u.arcs,x.i=x.o/\x.i≠0) (wx wy:List Int):∀ (n i k:Nat),i<=wx.length->k<=wy.length->wx.length - i+(wy.length - k)<n ->
  ∀ s,gd hr (valW u wx wy n i k) s=if wx.drop i=wy.drop k then (srG r hr).bw tF tT GTArc.i (fun x=>cw hr x.w) u.arcs (gd hr u.fin) (wx.drop i) s else (srG r hr).z
 | 0,_,_,_,_,h=>by omega
 | n+1,i,k,hi,hk,hn=>by
  intro s
  have hring:=ht.ring
  have hb:=zxm ht wx wy i k
  have hem:∀ x∈u.arcs,emF x=false:=fun x hx=>by simp only [emF,Bool.and_eq_false_iff,decide_eq_false_iff_not]; exact .inl (hlab x hx).2
  have hval:valW u wx wy (n+1) i k=accW r (zcm wx wy i k (valW u wx wy n)) u.arcs (zeq u wx wy i k):=by
   show sprN u.ring u.arcs (accW u.ring _ u.arcs _) u.st.toNat=_
   rw [zz2 hem,hring]
  have hok:∀ x∈u.arcs,okA r u.st.toNat (zcm wx wy i k (valW u wx wy n)) x:=fun x hx=>⟨(ht.arcs x hx).1,(ht.arcs x hx).2,fun e he=>by
   obtain ⟨a,b,h1,h2,h3,h4,h5,h6,h7,h8,h9,rfl⟩:=zeg hi hk he
   exact (zpp ht (zvv u) wx wy n a b h7 h8 (by omega)).2⟩
  rw [hval,z3o hr s hb hok]
  have hnone:(∀ c,¬ (wx[i]?=some c/\wy[k]?=some c))->(srG r hr).sum u.arcs (ctr hr (zcm wx wy i k (valW u wx wy n)) s)=(srG r hr).z:=fun h=>by
   rw [(srG r hr).sum_congr (g:=fun _=>(srG r hr).z) fun x hx=>?_,SR.sum_zero]
   unfold ctr
   rw [zpu (hlab x hx).1 (hlab x hx).2,if_neg (h x.i)]
  have hz:¬ (i=wx.length/\k=wy.length)->gd hr (zeq u wx wy i k) s=(srG r hr).z:=fun h=>by
   unfold zeq
   rw [if_neg h,hring]; exact zw8 hr _ _
  cases hx:wx.drop i with
  | nil =>
   obtain ⟨x1,x2⟩:=drop_nil hx hi
   rw [hnone fun c h=>by rw [x2] at h; cases h.1]
   cases hy:wy.drop k with
   | nil =>
    obtain ⟨y1,y2⟩:=drop_nil hy hk
    rw [if_pos rfl,(srG r hr).pz]
    unfold zeq
    rw [if_pos ⟨x1,y1⟩]; rfl
   | cons d y' =>
    have:=(znh hy).2.2
    rw [hz (by omega),if_neg (by simp),(srG r hr).pz]
  | cons c x' =>
   obtain ⟨x1,x2,x3⟩:=znh hx
   rw [hz (by omega),SR.zp]
   cases hy:wy.drop k with
   | nil =>
    obtain ⟨y1,y2⟩:=drop_nil hy hk
    rw [hnone fun c h=>(by rw [y2] at h; cases h.2),if_neg (by simp)]
   | cons d y' =>
    obtain ⟨y1,y2,y3⟩:=znh hy
    by_cases hcd:c=d
    ·subst hcd
     have ih:=z67 ht hlab wx wy n (i+1) (k+1) (by omega) (by omega) (by omega)
     rw [x2,y2] at ih
     by_cases hxy:x'=y'
     ·subst hxy
      rw [if_pos rfl]
      refine (srG r hr).sum_congr fun x hx=>?_
      unfold ctr
      rw [zpu (hlab x hx).1 (hlab x hx).2,x1,y1]
      by_cases hl:x.i=c
      ·subst hl
       rw [if_pos (And.intro rfl rfl)]
       simp only
       rw [ih,if_pos rfl]
       by_cases hf:x.f.toNat=s
       ·rw [if_pos hf,if_pos (show tF x=s/\True from ⟨hf,trivial⟩)]; rfl
       ·rw [if_neg hf,if_neg fun h=>hf h.1]
      ·rw [if_neg fun h=>hl (Option.some.inj h.1).symm,if_neg fun h=>hl h.2]
     ·rw [if_neg (by simp [hxy]),(srG r hr).sum_congr (g:=fun _=>(srG r hr).z) fun x hx=>?_,SR.sum_zero]
      unfold ctr
      rw [zpu (hlab x hx).1 (hlab x hx).2]
      by_cases hl:wx[i]?=some x.i/\wy[k]?=some x.i
      ·rw [if_pos hl]
       simp only
       rw [ih,if_neg hxy,(srG r hr).mz]
       split<;>rfl
      ·rw [if_neg hl]
    ·rw [hnone fun e h=>by rw [x1,y1] at h; exact hcd ((Option.some.inj h.1).trans (Option.some.inj h.2).symm),if_neg (by simp [hcd])]
theorem zu5 {N:Nat} {ini row:List GW} (h1:ckL r N ini) (h2:ckL r N row):∀ n,n<=N->(sumN r ini row n).chk r/\cw hr (sumN r ini row n)=(srG r hr).sum (List.range n) fun j=>(srG r hr).m (gd hr ini j) (gd hr row j)
 | 0,_=>⟨zbn hr,zqx hr⟩
 | n+1,hn=>by
  obtain ⟨i1,i2⟩:=zu5 h1 h2 n (by omega)
  have l1:n<ini.length:=by rw [h1.2]; omega
  have l2:n<row.length:=by rw [h2.2]; omega
  have k1:=h1.1 _ (List.getElem_mem l1)
  have k2:=h2.1 _ (List.getElem_mem l2)
  have g1:gd hr ini n=cw hr ini[n]:=by unfold gd; rw [List.getD_eq_getElem?_getD,List.getElem?_eq_getElem l1]; rfl
  have g2:gd hr row n=cw hr row[n]:=by unfold gd; rw [List.getD_eq_getElem?_getD,List.getElem?_eq_getElem l2]; rfl
  rw [ziu l1 l2]
  exact ⟨zbs i1 (za3 k1 k2),by rw [zqz hr i1 (za3 k1 k2),zqy hr k1 k2,i2,SR.sum_range,g1,g2]⟩
theorem yaw {u:GTrans} (ht:ckT r u) (hi:ckL r u.st.toNat u.ini) (hlab:∀ x∈u.arcs,x.i=x.o/\x.i≠0) (wx wy:List Int):(wgt u wx wy).chk r /\
  cw hr (wgt u wx wy)=if wx=wy then (srG r hr).dot u.st.toNat (gd hr u.ini) ((srG r hr).bw tF tT GTArc.i (fun x=>cw hr x.w) u.arcs (gd hr u.fin) wx) else (srG r hr).z:=by
 have hv:=(zpp ht (zvv u) wx wy (wx.length - 0+(wy.length - 0)+1) 0 0 (by omega) (by omega) (by omega)).2
 have hs:=zu5 hr hi hv u.st.toNat (Nat.le_refl _)
 have e:sumN r u.ini (tabW u wx wy 0 0) u.st.toNat=wgt u wx wy:=by
  rw [ziv (by rw [hi.2]; omega)]; unfold wgt; rw [ht.ring]
 change (sumN r u.ini (tabW u wx wy 0 0) u.st.toNat).chk r/\cw hr (sumN r u.ini (tabW u wx wy 0 0) u.st.toNat)=_ at hs
 rw [e] at hs
 refine ⟨hs.1,hs.2.trans ?_⟩
 have ht0:=z67 hr ht hlab wx wy (wx.length - 0+(wy.length - 0)+1) 0 0 (by omega) (by omega) (by omega)
 simp only [List.drop_zero] at ht0
 by_cases hxy:wx=wy
 ·rw [if_pos hxy]
  refine (srG r hr).sum_congr fun j _=>?_
  show (srG r hr).m _ (gd hr (valW u wx wy _ 0 0) j)=_
  rw [ht0,if_pos hxy]
 ·rw [if_neg hxy,(srG r hr).sum_congr (g:=fun _=>(srG r hr).z) fun j _=>?_,SR.sum_zero]
  show (srG r hr).m _ (gd hr (valW u wx wy _ 0 0) j)=_
  rw [ht0,if_neg hxy,(srG r hr).mz]
noncomputable def aF (x:GArc):Nat:=x.f.toNat
noncomputable def aT (x:GArc):Nat:=x.t.toNat
noncomputable def keyH (c:Int) (b:Nat->(srG r hr).α) (s:Nat):List Int->(srG r hr).α
 | [f,i,_,t]=>if f.toNat=s/\i=c then b t.toNat else (srG r hr).z
 | _=>(srG r hr).z
theorem z97 {A:List GArc} (hA:∀ x∈A,x.w.chk r) (c:Int) (b:Nat->(srG r hr).α):(srG r hr).bw1 tF tT GTArc.i (fun x=>cw hr x.w) (tidT r (A.map idT)) c b=(srG r hr).bw1 aF aT GArc.l (fun x=>cw hr x.w) A c b:=by
 funext s
 have hA':∀ y∈A.map idT,y.w.chk r:=zkd (wt:=GArc.w) (f:=idT) (fun _=>rfl) hA
 have h1:=ycf hr (keyH hr c b s) (key:=GTArc.key) (wt:=GTArc.w) (up:=upT r) (fun _ _=>rfl) (fun _ _=>rfl) hA'
 have e1:(srG r hr).bw1 tF tT GTArc.i (fun x=>cw hr x.w) (tidT r (A.map idT)) c b s=hs hr (keyH hr c b s) GTArc.key GTArc.w (tid GTArc.key GTArc.w r (upT r) (A.map idT)):=by
  refine (srG r hr).sum_congr fun x _=>?_
  show (if x.f.toNat=s/\x.i=c then _ else _)=(srG r hr).m _ (if x.f.toNat=s/\x.i=c then b x.t.toNat else _)
  split
  ·rfl
  ·rw [(srG r hr).mz]
 rw [e1,h1]
 show (srG r hr).sum (A.map idT) _=(srG r hr).sum A _
 rw [SR.sum_map]
 refine (srG r hr).sum_congr fun x _=>?_
 show (srG r hr).m _ (if x.f.toNat=s/\x.l=c then b x.t.toNat else _)=(if x.f.toNat=s/\x.l=c then _ else _)
 split
 ·rfl
 ·rw [(srG r hr).mz]
theorem z7s {A:List GArc} (hA:∀ x∈A,x.w.chk r) (fin:Nat->(srG r hr).α):∀ w:List Int,(srG r hr).bw tF tT GTArc.i (fun x=>cw hr x.w) (tidT r (A.map idT)) fin w=(srG r hr).bw aF aT GArc.l (fun x=>cw hr x.w) A fin w
 | []=>rfl
 | c::w=>by
  show (srG r hr).bw1 _ _ _ _ _ c ((srG r hr).bw _ _ _ _ _ fin w)=(srG r hr).bw1 _ _ _ _ _ c ((srG r hr).bw _ _ _ _ _ fin w)
  rw [z7s hA fin w,z97 hr hA]
def aOk (r:GRing) (N:Nat) (A:List GArc):Prop:=∀ x∈A,x.w.chk r/\x.fit N
theorem ybe {N:Nat} {v out:List GW} {x:GArc} {c:Int} (hv:ckL r N v) (ho:ckL r N out) (hx:x.w.chk r/\x.fit N) (t:Nat):ckL r N (stS r v c out x)/\gd hr (stS r v c out x) t=(srG r hr).p (gd hr out t) (if aT x=t/\x.l=c then (srG r hr).m (gd hr v (aF x)) (cw hr x.w) else (srG r hr).z):=by
 obtain ⟨hw,⟨a1,a2⟩,a3,a4⟩:=hx
 have ct:=za3 (zgd hr hv x.f.toNat) hw
 have cp:=zbs (zgd hr ho x.t.toNat) ct
 unfold stS
 by_cases hc:x.l=c
 ·rw [if_pos hc]
  refine ⟨⟨fun w hw'=>?_,by rw [List.length_set]; exact ho.2⟩,?_⟩
  ·rcases List.mem_or_eq_of_mem_set hw' with h|h
   ·exact ho.1 w h
   ·rw [h]; exact cp
  ·by_cases ht:x.t.toNat=t
   ·subst ht
    rw [if_pos ⟨rfl,hc⟩,zm7 hr _ (by rw [ho.2]; omega),zqz hr (zgd hr ho _) ct,zqy hr (zgd hr hv _) hw]
    rfl
   ·rw [if_neg fun h=>ht h.1,zs3 hr _ ht,(srG r hr).pz]
 ·rw [if_neg hc,if_neg fun h=>hc h.2,(srG r hr).pz]
  exact ⟨ho,rfl⟩
theorem zzz {N:Nat} {v:List GW} {c:Int} (hv:ckL r N v) (t:Nat):∀ {A:List GArc} {out:List GW},ckL r N out->aOk r N A->ckL r N (A.foldl (stS r v c) out)/\gd hr (A.foldl (stS r v c) out) t=(srG r hr).p (gd hr out t) ((srG r hr).fw1 aF aT GArc.l (fun x=>cw hr x.w) A c (gd hr v) t)
 | [],out,ho,_=>⟨ho,((srG r hr).pz _).symm⟩
 | x::A,out,ho,hA=>by
  have h1:=ybe hr (c:=c) hv ho (hA x List.mem_cons_self) t
  have h2:=zzz (c:=c) hv t (A:=A) h1.1 fun y hy=>hA y (List.mem_cons_of_mem _ hy)
  refine ⟨h2.1,h2.2.trans ?_⟩
  rw [h1.2,(srG r hr).pa]; rfl
theorem ybf {N:Nat} {A:List GArc} {v:List GW} (hv:ckL r N v) (hA:aOk r N A) (c:Int):ckL r N (stL r A v c N)/\gd hr (stL r A v c N)=(srG r hr).fw1 aF aT GArc.l (fun x=>cw hr x.w) A c (gd hr v):=by
 have hz:ckL r N (List.replicate N r.zero):=⟨fun w hw=>by rw [List.eq_of_mem_replicate hw]; exact zbn hr,by simp⟩
 refine ⟨(zzz hr hv 0 hz hA).1,funext fun t=>?_⟩
 have:=(zzz hr (c:=c) hv t hz hA).2
 rw [zw8,SR.zp] at this
 exact this
theorem z7l {N:Nat} {A:List GArc} (hA:aOk r N A):∀ (w:List Int) (v:List GW),ckL r N v->ckL r N (fwL r A N v w)/\gd hr (fwL r A N v w)=(srG r hr).fw aF aT GArc.l (fun x=>cw hr x.w) A w (gd hr v)
 | [],v,hv=>⟨hv,rfl⟩
 | c::w,v,hv=>by
  have h1:=ybf hr hv hA c
  have h2:=z7l hA w _ h1.1
  refine ⟨h2.1,h2.2.trans ?_⟩
  rw [h1.2]; rfl
end
theorem z7x {a:GAuto} (ok:a.ok) (hpl:∀ x∈a.arcs,x.l≠0) (wx wy:List Int):wgt a.idt.nf wx wy=if wx=wy then wgt8 a wx else a.ring.zero:=by
 have hr:=ok.ring
 have oki:=zsq (zw5 ok)
 have st1:=ok.st1
 have il:=ok.il
 have fl:=ok.fl
 have hi:ckL a.ring a.st.toNat a.ini:=⟨ok.ini,by omega⟩
 have hf:ckL a.ring a.st.toNat a.fin:=⟨ok.fin,by omega⟩
 have hck:ckT a.ring a.idt.nf:=⟨rfl,hr,hf,fun x hx=>by
  obtain ⟨a1,a2,a3,a4,a5,a6,a7,a8,a9⟩:=oki.arcs x hx
  have e:a.idt.nf.st=a.st:=rfl
  exact ⟨a9,⟨a1,by show x.f<(a.st.toNat:Int); omega⟩,a3,by show x.t<(a.st.toNat:Int); omega⟩⟩
 have hlab:∀ x∈a.idt.nf.arcs,x.i=x.o/\x.i≠0:=fun x hx=>by
  have hc:∀ x∈a.arcs,x.w.chk a.ring:=fun x hx=>(ok.arcs x hx).2.2.2.2.2.2
  have h1:∀ y∈a.arcs.map idT,y.w.chk a.ring:=zkd (wt:=GArc.w) (f:=idT) (fun _=>rfl) hc
  obtain ⟨y,hy,e⟩:=zpq (key:=GTArc.key) (wt:=GTArc.w) (up:=upT a.ring) hr (fun _ _=>rfl) (fun _ _=>rfl) h1 (show x∈tid GTArc.key GTArc.w a.ring (upT a.ring) (a.arcs.map idT) from hx)
  obtain ⟨z,hz,rfl⟩:=List.mem_map.1 hy
  simp only [GTArc.key,idT,List.cons.injEq,and_true] at e
  exact ⟨by rw [<- e.2.1,<- e.2.2.1],by rw [<- e.2.1]; exact hpl z hz⟩
 have hw:=yaw hr hck hi hlab wx wy
 have hA:aOk a.ring a.st.toNat a.arcs:=fun x hx=>by
  obtain ⟨a1,a2,a3,a4,a5,a6,a7⟩:=ok.arcs x hx
  exact ⟨a7,⟨a1,by omega⟩,a3,by omega⟩
 by_cases hxy:wx=wy
 ·rw [if_pos hxy]
  have h8:=z7l hr hA wx a.ini hi
  have hs:=zu5 hr h8.1 hf a.st.toNat (Nat.le_refl _)
  rw [ziv (by rw [h8.1.2]; omega)] at hs
  refine z7q hr hw.1 hs.1 (hw.2.trans ?_)
  rw [if_pos hxy]
  show _=cw hr (sumW a.ring (fwL a.ring a.arcs a.st.toNat a.ini wx) a.fin)
  rw [hs.2,h8.2]
  show (srG a.ring hr).dot a.st.toNat (gd hr a.ini) ((srG a.ring hr).bw tF tT GTArc.i (fun x=>cw hr x.w) (tidT a.ring (a.arcs.map idT)) (gd hr a.fin) wx)=(srG a.ring hr).dot a.st.toNat ((srG a.ring hr).fw aF aT GArc.l (fun x=>cw hr x.w) a.arcs wx (gd hr a.ini)) (gd hr a.fin)
  rw [z7s hr (fun x hx=>(hA x hx).1),SR.dot_fw]
  ·exact fun x hx=>by obtain ⟨_,⟨a1,a2⟩,a3,a4⟩:=hA x hx; show x.f.toNat<_; omega
  ·exact fun x hx=>by obtain ⟨_,⟨a1,a2⟩,a3,a4⟩:=hA x hx; show x.t.toNat<_; omega
 ·rw [if_neg hxy]
  refine z7q hr hw.1 (zbn hr) (hw.2.trans ?_)
  rw [if_neg hxy,zqx]
end Go.Ab
namespace Go.Ab
open Enc (enc)
attribute [local go_sem] zas Opd.slots
structure GAuto.tin (a:GAuto):Prop where
 ok:a.ok
 st:a.st<=3
 al:a.arcs.length<=10
 ini:∀ w∈a.ini,w.tiny a.ring
 fin:∀ w∈a.fin,w.tiny a.ring
 arcs:∀ x∈a.arcs,x.w.tiny a.ring/\x.l≠0
theorem z3h (m:GModel) (hm:m.em=false) (r:GRing) (i s:Int) (hr:r.ok=true) (hi:1<=i/\i<=32) (hs:1<=s/\s<=3):(zrc m r i s).tin:=by
 have hn:1<=numN m s/\numN m s<=s:=by
  have h1:=Int.emod_nonneg (IntKind.i64.wrap (m.st - 1)) (show s≠0 by omega)
  have h2:=Int.emod_lt_of_pos (IntKind.i64.wrap (m.st - 1)) (show 0<s by omega)
  unfold numN; omega
 have la:(zrc m r i s).arcs.length=min 10 (m.arcs.length / 4):=zjn ..
 have hx:∀ x∈(zrc m r i s).arcs,inA x (zrc m r i s)/\x.w.tiny r/\x.l≠0:=fun x hx=>by
  obtain ⟨j,_,rfl⟩:=List.mem_map.1 (show x∈zk6 m r i (numN m s) (min 10 (m.arcs.length / 4)) from hx)
  have hw:=zox hr (m.arcs.getD (4*j+3) 0)
  have g:∀ (a b:Int),0<b->0<=a % b/\a % b<b:=fun a b h=>⟨Int.emod_nonneg a (by omega),Int.emod_lt_of_pos a h⟩
  have g1:=g (m.arcs.getD (4*j) 0) (numN m s) (by omega)
  have g2:=g (m.arcs.getD (4*j+2) 0) (numN m s) (by omega)
  have g4:=g (m.arcs.getD (4*j+1) 0) i (by omega)
  have el:(arcA m r i (numN m s) (m.arcs.getD (4*j) 0) (m.arcs.getD (4*j+1) 0) (m.arcs.getD (4*j+2) 0) (m.arcs.getD (4*j+3) 0)).l=1+m.arcs.getD (4*j+1) 0 % i:=by
   show (if m.em=true then _ else _)=_
   rw [hm]; rfl
  refine ⟨⟨g1.1,g1.2,g2.1,g2.2,?_,?_,hw.chk⟩,hw,?_⟩
  ·rw [el]; omega
  ·rw [el]; show _<=i; omega
  ·rw [el]; omega
 have e1:=zpa hr m.ini 0 (numN m s).toNat
 have e2:=zpa hr m.fin (numN m s - 1) (numN m s).toNat
 exact ⟨⟨hr,hi.1,hi.2,by show 0<=numN m s; omega,by show numN m s<=64; omega,by show ((zfe r m.ini 0 (numN m s).toNat).length:Int)=numN m s; rw [zeo]; omega,
  by show ((zfe r m.fin (numN m s - 1) (numN m s).toNat).length:Int)=numN m s; rw [zeo]; omega,by omega,fun x h=>(hx x h).1,fun w h=>(e1 w h).chk,fun w h=>(e2 w h).chk⟩,by show numN m s<=3; omega,by omega,e1,e2,fun x h=>(hx x h).2⟩
theorem GAuto.tin.sm {a:GAuto} (h:a.tin):a.sm 3:=⟨fun w hw=>(h.ini w hw).sm,fun w hw=>(h.fin w hw).sm,fun x hx=>(h.arcs x hx).1.sm⟩
theorem GAuto.tin.idt_arcs {a:GAuto} (h:a.tin):∀ x∈a.idt.arcs,x.w.tiny a.ring:=fun x hx=>by
 obtain ⟨y,hy,rfl⟩:=List.mem_map.1 (show x∈a.arcs.map idT from hx)
 exact (h.arcs y hy).1
theorem GAuto.tin.idt_len {a:GAuto} (h:a.tin):a.idt.arcs.length<=10:=by show (a.arcs.map idT).length<=10; rw [List.length_map]; exact h.al
theorem GAuto.tin.nf_sm {a:GAuto} (h:a.tin):a.idt.nf.sm 44:=by
 have:=zvr (r:=a.ring) (n:=3) (by omega) fun x hx=>⟨(h.idt_arcs x hx).sm,(h.idt_arcs x hx).chk⟩
 have hl:=h.idt_len
 exact ⟨fun w hw=>(h.sm.ini w hw).mono (by omega),fun w hw=>(h.sm.fin w hw).mono (by omega),fun x hx=>(this x hx).mono (by have:=Nat.mul_le_mul_right 4 (Nat.succ_le_succ hl); omega)⟩
theorem GAuto.tin.nf_fits {a:GAuto} (h:a.tin):a.idt.nf.fits (mbM a.ring h.ok.ring) 11:=by
 have ok:=h.ok
 have h0:=ok.il
 have h1:=ok.fl
 have ht:=zzr (r:=a.ring) (n:=1) fun x hx=>⟨(h.idt_arcs x hx).mb,(h.idt_arcs x hx).chk⟩
 have hl:=h.idt_len
 refine ⟨rfl,⟨ok.st1,ok.st2⟩,fun x hx=>?_,⟨fun w hw=>⟨(h.ini w hw).chk,(h.ini w hw).mb.mono (by omega)⟩,by show a.ini.length=a.st.toNat; omega⟩,⟨fun w hw=>⟨(h.fin w hw).chk,(h.fin w hw).mb.mono (by omega)⟩,by show a.fin.length=a.st.toNat; omega⟩,ok.ring⟩
 obtain ⟨a1,a2,a3,a4,a5,a6,a7,a8,a9⟩:=(zsq (zw5 ok)).arcs x hx
 have e:a.idt.nf.st=a.st:=rfl
 refine ⟨⟨a9,(ht x hx).mono (by omega)⟩,⟨a1,by show x.f<(a.idt.nf.st.toNat:Int); omega⟩,a3,by show x.t<(a.idt.nf.st.toNat:Int); omega⟩
theorem GAuto.tin.fits {a:GAuto} (h:a.tin):GAuto.fits (mbM a.ring h.ok.ring) 1 a:=by
 have ok:=h.ok
 have h0:=ok.il
 have h1:=ok.fl
 refine ⟨rfl,⟨ok.st1,ok.st2⟩,fun x hx=>?_,⟨fun w hw=>⟨(h.ini w hw).chk,(h.ini w hw).mb⟩,by omega⟩,⟨fun w hw=>⟨(h.fin w hw).chk,(h.fin w hw).mb⟩,by omega⟩,ok.ring⟩
 obtain ⟨a1,a2,a3,a4,a5,a6,a7⟩:=ok.arcs x hx
 exact ⟨⟨a7,(h.arcs x hx).1.mb⟩,⟨a1,by omega⟩,a3,by omega⟩
theorem zz3:∀ (n:Nat) (on:List Bool),spF [] n on=on
 | 0,_=>rfl
 | n+1,on=>zz3 n on
theorem z6p (n:Nat):cycF n []=false:=by
 unfold cycF
 rw [List.any_eq_false]
 intro s hs
 unfold cycB
 rw [zz3]
 have:mkR s [] n=List.replicate n false:=rfl
 rw [this,List.getD_eq_getElem?_getD,List.getElem?_replicate]
 split<;>simp
theorem z18 {a:GAuto} (ok:a.ok) (hpl:∀ x∈a.arcs,x.l≠0):(∀ x∈a.idt.nf.arcs,x.i≠0)/\∀ x∈a.nf.arcs,x.l≠0:=by
 have hc:∀ x∈a.arcs,x.w.chk a.ring:=fun x hx=>(ok.arcs x hx).2.2.2.2.2.2
 have h1:∀ y∈a.arcs.map idT,y.w.chk a.ring:=zkd (wt:=GArc.w) (f:=idT) (fun _=>rfl) hc
 refine ⟨fun x hx=>?_,fun x hx=>?_⟩
 ·obtain ⟨y,hy,e⟩:=zpq (key:=GTArc.key) (wt:=GTArc.w) (up:=upT a.ring) ok.ring (fun _ _=>rfl) (fun _ _=>rfl) h1 (show x∈tid GTArc.key GTArc.w a.ring (upT a.ring) (a.arcs.map idT) from hx)
  obtain ⟨z,hz,rfl⟩:=List.mem_map.1 hy
  simp only [GTArc.key,idT,List.cons.injEq,and_true] at e
  rw [<- e.2.1]; exact hpl z hz
 ·obtain ⟨z,hz,e⟩:=zpq (key:=GArc.key) (wt:=GArc.w) (up:=upA a.ring) ok.ring (fun _ _=>rfl) (fun _ _=>rfl) hc (show x∈tid GArc.key GArc.w a.ring (upA a.ring) a.arcs from hx)
  simp only [GArc.key,List.cons.injEq,and_true] at e
  rw [<- e.2.1]; exact hpl z hz
theorem z9n {a:GAuto} (ok:a.ok) (hpl:∀ x∈a.arcs,x.l≠0):emC a.idt.nf=false:=by
 unfold emC
 have:emP a.idt.nf.nf.arcs=[]:=by
  rw [z5k (zw5 ok)]
  unfold emP
  rw [List.filter_eq_nil_iff.2 fun x hx=>by have:=(z18 ok hpl).1 x hx; simp [emF,this]]; rfl
 rw [this]; exact z6p _
theorem z7w {t:GTrans} {r:GRing} (hr:r.ok=true) {z:Nat} (ht:t.fits (mbM r hr) z) (wx wy:List Int) (hlim:z+lvl t z (wx.length+wy.length+1)+1+t.st.toNat<=900):(wgt t wx wy).sm 1048576:=by
 have h:=zzt ht (wx:=wx) (wy:=wy) (i:=0) (k:=0) (by omega) (by omega)
 have h3:=zpt (M:=mbM r hr) hr ht.ini.1 h.1 t.st.toNat (by rw [ht.ini.2]; omega) (by rw [h.2]; omega)
 have e:sumN r t.ini (tabW t wx wy 0 0) t.st.toNat=wgt t wx wy:=by
  rw [ziv (by rw [ht.ini.2]; omega)]; unfold wgt; rw [ht.ring]
 rw [e] at h3
 have hb:(wgt t wx wy).mb (z+lvl t z (wx.length+wy.length+1)+1+t.st.toNat):=h3.2
 exact (ztm h3.1 (hb.mono (show _<=900 by omega)) (by omega)).mono (by omega)
theorem identityWeighs_sp (k:Int) (m:GModel) (wi wo:List Int):Sp P F.nq [.int .i64 k,enc m,.sl (ens wi),.sl (ens wo)] (.pure (.bool true)):=by
 have hT:=z3h ⟨m.st,m.ini,m.fin,m.arcs,false⟩ rfl (zjx k) 2 3 (zv1 k) (by omega) (by omega)
 have hts:=z99 ⟨m.st,m.ini,m.fin,m.arcs,false⟩ (zjx k) 2 3 (zv1 k) (by omega) (by omega)
 have hsy:(zrc ⟨m.st,m.ini,m.fin,m.arcs,false⟩ (zjx k) 2 3).sy=2:=rfl
 have hrg:(zrc ⟨m.st,m.ini,m.fin,m.arcs,false⟩ (zjx k) 2 3).ring=zjx k:=rfl
 generalize zrc ⟨m.st,m.ini,m.fin,m.arcs,false⟩ (zjx k) 2 3=a at *
 have ok:=hT.ok
 have oki:=zw5 ok
 have h0:=ok.il
 have h1:=ok.fl
 have h2:=ok.st2
 have hal:=hT.al
 have hst:=hT.st
 have hpl:∀ x∈a.arcs,x.l≠0:=fun x hx=>(hT.arcs x hx).2
 have su:=hT.nf_sm
 have lu:a.idt.nf.arcs.length<=10:=Nat.le_trans (zuo a.idt) hT.idt_len
 have oku:a.idt.nf.ok:=zsq oki
 have u0:=oku.il
 have u1:=oku.fl
 have u2:=oku.st2
 have lx:=zrh wi 2 3
 have ly:=zrh wo 2 3
 have wx:=zvl wi 2 3 (by omega) (by omega)
 have wy:=zvl wo 2 3 (by omega) (by omega)
 have cx:=zzf wi 2 3 (by omega) (by omega) (by omega)
 have cy:=zzf wo 2 3 (by omega) (by omega) (by omega)
 change Sp P F.bq _ (.pure (.sl (ens (zri wi 2 3)))) at cx
 change Sp P F.bq _ (.pure (.sl (ens (zri wo 2 3)))) at cy
 generalize zri wi 2 3=X at *
 generalize zri wo 2 3=Y at *
 have c1:=zsz a 3 (by omega) (by omega) hT.sm (by omega) (by omega) (by omega)
 rw [if_pos (GAuto.vb_iff.2 ok),if_pos (GAuto.vb_iff.2 ok),show trV a.idt=a.idt.nf by unfold trV; rw [if_pos oki],show trE a.idt=0 by unfold trE; rw [if_pos oki]] at c1
 have c3:=zsy a.idt.nf 44 (by omega) (by omega) su (by omega) (by omega) (by omega)
 rw [show zix a.idt.nf a.idt.nf.inA=a.nf by unfold zix; rw [if_pos oku,if_pos (GAuto.vb_iff.2 (zw4 oku)),(zv0 ok).1],show ziy a.idt.nf a.idt.nf.inA=0 by unfold ziy; rw [if_pos oku,if_pos (GAuto.vb_iff.2 (zw4 oku))]] at c3
 have c4:=zya a.idt.nf 44 (by omega) (by omega) su (by omega) (by omega) (by omega)
 rw [show zix a.idt.nf a.idt.nf.outA=a.nf by unfold zix; rw [if_pos oku,if_pos (GAuto.vb_iff.2 (z07 oku)),(zv0 ok).2],show ziy a.idt.nf a.idt.nf.outA=0 by unfold ziy; rw [if_pos oku,if_pos (GAuto.vb_iff.2 (z07 oku))]] at c4
 have hfit:a.idt.nf.nf.fits (mbM a.ring ok.ring) 11:=by rw [z5k oki]; exact hT.nf_fits
 have hlv:lvl a.idt.nf.nf 11 (X.length+Y.length+1)<=7*(4*22):=by
  rw [z5k oki]
  have hS:a.idt.nf.st.toNat<=3:=by show a.st.toNat<=3; omega
  have h1:(a.idt.nf.st.toNat+1)*(11+1+a.idt.nf.arcs.length)<=4*22:=Nat.mul_le_mul (by omega) (by omega)
  exact Nat.mul_le_mul (by omega) h1
 have w1:=ztv (mbM a.ring ok.ring) a.idt.nf 44 (by omega) (by omega) su (by omega) oku hfit X Y (by omega) (by omega) (by show lvl a.idt.nf.nf 11 (X.length+Y.length+1)+11+1+a.st.toNat<=900; omega) (z9n ok hpl) (by show zim X a.sy; rw [hsy]; exact wx) (by show zim Y a.sy; rw [hsy]; exact wy)
 have hsm:(wgt a.idt.nf.nf X Y).sm 1048576:=z7w ok.ring hfit X Y (by show 11+lvl a.idt.nf.nf 11 (X.length+Y.length+1)+1+a.st.toNat<=900; omega)
 have w2:=zxt (mbM a.ring ok.ring) a hT.fits 3 (by omega) (by omega) hT.sm (by omega) ok (z18 ok hpl).2 X (by rw [hsy]; exact wx) (by
  have h1:(X.length+1)*(1+1+a.arcs.length)<=4*12:=Nat.mul_le_mul (by omega) (by omega)
  show 1+(X.length+1)*(1+1+a.arcs.length)+1+1+64<=900
  omega)
 have hV:=z7x ok hpl X Y
 rw [<- z5k oki] at hV
 have hp:a.ring.parts.length<=1000000:=by
  by_cases h6:a.ring.kind=6
  ·have:=(GRing.ok_parts ok.ring h6).2.1; omega
  ·rw [(GRing.ok_kind ok.ring h6).2.2]; simp
 have c5:=zxb a 3 (by omega) (by omega) hT.sm (by omega) hp (by omega) (by omega) ok.ini ok.fin fun x hx=>(hT.arcs x hx).1.chk
 have f6:=zx3 (z9a ok (n:=3) (by omega) (by omega) hT.sm (by omega))
 have c6:=zhd _ hsm
 have c7:=zig X Y (by omega)
 have hz:cmp5 X Y=0 ↔ X=Y:=by
  unfold cmp5
  by_cases hl:X.length=Y.length
  ·rw [if_neg (by simp [hl])]; exact zid hl
  ·rw [if_pos hl]
   constructor
   ·intro h; split at h<;>omega
   ·intro h; exact absurd (congrArg List.length h) hl
 generalize cmp5 X Y=C at *
 generalize wgt a.idt.nf.nf X Y=V at *
 generalize a.idt.nf=u at *
 generalize a.nf=o at *
 refine Sp.vz c.nq fun _=>?_
 simp [g.nq,go_sem]
 refine zab (z8j k) ?_
 simp [go_sem]
 refine zab hts ?_
 simp [go_sem]
 refine zab cx ?_
 simp [go_sem]
 refine zab cy ?_
 simp [go_sem]
 refine zab c1 ?_
 simp [go_sem]
 refine zab c3 ?_
 simp [go_sem]
 refine zab c4 ?_
 simp [go_sem]
 refine zab w1 ?_
 simp [go_sem]
 refine zab w2 ?_
 simp [go_sem]
 refine zab c7 ?_
 simp [go_sem]
 refine ⟨fun h=>?_,fun h=>?_⟩
 ·rw [if_pos (hz.1 h)] at hV
  refine zab zxn ?_
  simp [go_sem]
  refine zab (c6 (wgt8 a X)) ?_
  simp [go_sem,hV]
  refine zab c5 ?_
  simp [go_sem]
  refine zab f6 ?_
  simp [go_sem]
  refine zab f6 ?_
  simp [go_sem]
 ·have hne:¬ X=Y:=fun e=>h (hz.2 e)
  rw [if_neg hne] at hV
  have c8:=zdk a.ring
  simp only [hrg] at c8 hV
  refine zab c8 ?_
  simp [go_sem]
  refine zab zxn ?_
  simp [go_sem]
  refine zab (c6 (zjx k).zero) ?_
  simp [go_sem,hV]
  refine zab c5 ?_
  simp [go_sem]
  refine zab f6 ?_
  simp [go_sem]
  refine zab f6 ?_
  simp [go_sem]
end Go.Ab
