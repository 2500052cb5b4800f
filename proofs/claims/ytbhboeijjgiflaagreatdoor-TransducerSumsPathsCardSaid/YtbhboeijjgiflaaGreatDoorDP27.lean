/-
Proofs for the law TransducerSumsPaths, part 27. Conditions: none.
-/
import Derived.Test.YtbhboeijjgiflaaGreatDoorDP26
set_option maxRecDepth 100000
set_option maxHeartbeats 4000000
set_option linter.all false
namespace Go.Ab
open Enc (enc)
def qb(D B:Nat)(q:Rat):Prop:=∃ a:Int,q=mkRat a D/\a.natAbs<=B
theorem ztm{D B B':Nat}{x y:Rat}(hx:qb D B x)(hy:qb D B' y)(hD:D≠0):qb D (B+B') (x+y):=by obtain⟨a,rfl,h1⟩:=hx;obtain⟨b,rfl,h2⟩:=hy;refine⟨a+b,?_,by omega⟩;rw[Rat.mkRat_add_mkRat _ _ hD hD,<- Int.add_mul,Rat.mkRat_mul_right hD]
theorem z21{D D' B B':Nat}{x y:Rat}(hx:qb D B x)(hy:qb D' B' y):qb (D*D') (B*B') (x*y):=by
 obtain⟨a,rfl,h1⟩:=hx;obtain⟨b,rfl,h2⟩:=hy;refine⟨a*b,?_,?_⟩
 ·rw[Rat.mkRat_mul_mkRat]
 ·rw[Int.natAbs_mul];exact yn4 h1 h2
theorem zd0{D B:Nat}{x:Rat}(k:Nat)(hk:k≠0)(hx:qb D B x):qb (D*k) (B*k) x:=by
 obtain⟨a,rfl,h1⟩:=hx;refine⟨a*k,?_,?_⟩
 ·rw[Rat.mkRat_mul_right hk]
 ·rw[Int.natAbs_mul];exact yn4 h1 (by simp)
theorem zis(D:Nat):qb D 0 0:=⟨0,by simp,by simp⟩
theorem zbh{D B B':Nat}{x:Rat}(h:qb D B x)(k:B<=B'):qb D B' x:=by obtain⟨a,e,h⟩:=h;exact⟨a,e,by omega⟩
theorem zvj{D B n:Nat}{x:Rat}(h:qb D B x)(hD:D≠0)(h1:D<4294967296^n)(h2:B<4294967296^n):(rto x).sm n:=by
 obtain⟨a,rfl,h⟩:=h;have e1:(mkRat a D).num.natAbs<=B:=by rw[Rat.num_mkRat,ym1 hD];exact ymm (Int.natAbs_ediv_le_natAbs _ _) h
 have e2:(mkRat a D).den<=D:=by rw[Rat.den_mkRat,ym1 hD];exact ypr _ _
 refine⟨zav (ynh e1 h2),?_⟩;show(if (mkRat a D).den=1 then[]else lb (mkRat a D).den).length<=n;split
 ·simp
 ·exact zav (ynh e2 h1)
def Ex.code(e:Ex):Int:=e.a*36+e.b*6+e.c
theorem Ex.ok_iff{e:Ex}:e.ok=true ↔ (0<=e.a/\e.a<=5/\0<=e.b/\e.b<=5/\0<=e.c/\e.c<=5/\e.a+e.b+e.c<=5):=by simp[Ex.ok]
theorem Ex.code_lt{e:Ex}(h:e.ok=true):0<=e.code/\e.code<216:=by rw[Ex.ok_iff]at h;unfold Ex.code;omega
theorem Ex.cmp_neg{x y:Ex}(hx:x.ok=true)(hy:y.ok=true):x.cmp y<0 ↔ x.code<y.code:=by rw[Ex.ok_iff]at hx hy;unfold Ex.cmp Ex.code;(repeat' split)<;>omega
theorem Ex.cmp_pos{x y:Ex}(hx:x.ok=true)(hy:y.ok=true):0<x.cmp y ↔ y.code<x.code:=by rw[Ex.ok_iff]at hx hy;unfold Ex.cmp Ex.code;(repeat' split)<;>omega
theorem Ex.code_inj{x y:Ex}(hx:x.ok=true)(hy:y.ok=true):x.code=y.code ↔ x=y:=by rw[Ex.ok_iff]at hx hy;unfold Ex.code;obtain⟨a,b,c⟩:=x;obtain⟨a',b',c'⟩:=y;simp only[Ex.mk.injEq]at *;omega
theorem zaj{p:List GMono}:PVal p ↔ (∀ m∈p,m.ok=true)/\p.Pairwise (fun x y=>y.e.code<x.e.code):=by
 have ok_e:∀ {m:GMono},m.ok=true->m.e.ok=true:=fun h=>by simp[GMono.ok]at h;exact h.1.1
 constructor
 ·intro h;have h1:∀ m∈p,m.ok=true:=fun m hm=>by obtain⟨i,hi,rfl⟩:=List.getElem_of_mem hm;exact(h i hi).1
  refine⟨h1,List.pairwise_iff_getElem.2 fun i j hi hj hij=>?_⟩;obtain⟨d,rfl⟩:∃ d,j=i+1+d:=⟨j - i - 1,by omega⟩;clear hij
  induction d with
  | zero =>
   have:=(h (i+1) hj).2 (by omega);exact(Ex.cmp_neg (ok_e (h1 _ (ym3 _))) (ok_e (h1 _ (ym3 _)))).1 this
  | succ d ih =>
   have h2:=ih (by omega);have h3:=(h (i+1+(d+1)) hj).2 (by omega);have h4:=(Ex.cmp_neg (ok_e (h1 _ (ym3 _))) (ok_e (h1 _ (ym3 _)))).1 h3;exact Int.lt_trans h4 h2
 ·rintro⟨h1,h2⟩ i hi;refine⟨h1 _ (ym3 hi),fun h0=>?_⟩;refine(Ex.cmp_neg (ok_e (h1 _ (ym3 _))) (ok_e (h1 _ (ym3 _)))).2 ?_;exact List.pairwise_iff_getElem.1 h2 (i - 1) i (by omega) hi (by omega)
def pc:List GMono->Ex->Rat
 | [],_=>0
 | m::p,e=>(if m.e=e then m.coef.v else 0)+pc p e
theorem zf2(p q:List GMono)(e:Ex):pc (p++q) e=pc p e+pc q e:=by
 induction p with
 | nil=>simp[pc,yp0]
 | cons m p ih=>simp[pc,ih,ynm]
theorem zit{p:List GMono}{e:Ex}(h:∀ m∈p,m.e≠e):pc p e=0:=by
 induction p with
 | nil=>rfl
 | cons m p ih=>simp only[pc,ym1 (h m (by simp)),yp0];exact ih fun x hx=>h x (by simp[hx])
theorem zhn{m:GMono}{p:List GMono}(h:PVal (m::p)):pc (m::p) m.e=m.coef.v:=by have:=zaj.1 h;simp only[pc,ym2];rw[zit,yn5];intro x hx he;have:=(yo6.1 this.2).1 x hx;rw[he]at this;omega
theorem PVal.tail{m:GMono}{p:List GMono}(h:PVal (m::p)):PVal p:=by have:=zaj.1 h;exact zaj.2 ⟨fun x hx=>this.1 x (by simp[hx]),(yo6.1 this.2).2⟩
theorem zh9{p q:List GMono}(hp:PVal p)(hq:PVal q)(h:∀ e,pc p e=pc q e):p=q:=by
 have okm:∀ {m:GMono},m.ok=true->m.e.ok=true/\m.coef.valid=true/\m.coef.v≠0:=fun h=>by simp[GMono.ok]at h;exact⟨h.1.1,h.1.2,h.2⟩
 induction p generalizing q with
 | nil =>
  cases q with
  | nil=>rfl
  | cons m q =>
   have:=h m.e;rw[zhn hq]at this;exact absurd this.symm (okm ((zaj.1 hq).1 m (by simp))).2.2
 | cons m p ih =>
  cases q with
  | nil =>
   have:=h m.e;rw[zhn hp]at this;exact absurd this (okm ((zaj.1 hp).1 m (by simp))).2.2
  | cons m' q =>
   have o1:=okm ((zaj.1 hp).1 m (by simp));have o2:=okm ((zaj.1 hq).1 m' (by simp));have he:m.e=m'.e:=by
    rcases Int.lt_trichotomy m.e.code m'.e.code with h1|h1|h1
    ·have:=h m'.e;rw[zhn hq,zit]at this
     ·exact absurd this.symm o2.2.2
     ·intro x hx hxe;rcases ym7.1 hx with rfl|hx
      ·rw[hxe]at h1;omega
      ·have:=(yo6.1 (zaj.1 hp).2).1 x hx;rw[hxe]at this;omega
    ·exact(Ex.code_inj o1.1 o2.1).1 h1
    ·have:=h m.e;rw[zhn hp,zit]at this
     ·exact absurd this o1.2.2
     ·intro x hx hxe;rcases ym7.1 hx with rfl|hx
      ·rw[hxe]at h1;omega
      ·have:=(yo6.1 (zaj.1 hq).2).1 x hx;rw[hxe]at this;omega
   have hc:m.coef=m'.coef:=by have:=h m.e;rw[zhn hp,he,zhn hq]at this;rw[<- zf0 o1.2.1,<- zf0 o2.2.1,this]
   have hm:m=m':=by cases m;cases m';simp at he hc;simp[he,hc]
   subst hm
   congr 1
   refine ih hp.tail hq.tail fun e=>?_;have:=h e;simp only[pc]at this;exact Rat.add_left_cancel _ this
def pins:List GMono->Ex->Rat->List GMono
 | [],e,q=>[⟨e,rto q⟩]
 | m::p,e,q=>if 0<m.e.cmp e then m::pins p e q else if m.e=e then(if q+m.coef.v=0 then p else⟨e,rto (q+m.coef.v)⟩::p)else⟨e,rto q⟩::m::p
theorem zhk(p:List GMono)(e:Ex)(q:Rat):pput p e q=if e.ok=false\/q=0 then p else pins p e q:=by
 unfold pput;split
 ·rfl
 ·rename_i h
  induction p with
  | nil=>simp[pat,pins]
  | cons m p ih =>
   by_cases h1:0<m.e.cmp e
   ·simp only[pat,ym0 h1,List.getElem?_cons_succ,yqk,yrm,pins,<- ih];cases p[pat p e]? with
    | none=>simp
    | some x=>simp only[yoy];(repeat' split)<;>rfl
   ·simp[pat,pins,h1]
theorem GMono.ok_iff{m:GMono}:m.ok=true ↔ m.e.ok=true/\m.coef.valid=true/\m.coef.v≠0:=by simp[GMono.ok,and_assoc]
theorem z8i{p:List GMono}{e:Ex}{q:Rat}{x:GMono}(h:x∈pins p e q):x.e=e\/x∈p:=by
 induction p with
 | nil=>simp[pins]at h;exact .inl (by rw[h])
 | cons m p ih =>
  simp only[pins]at h;split at h
  ·rcases ym7.1 h with rfl|h
   ·exact .inr (by simp)
   ·rcases ih h with h|h
    ·exact .inl h
    ·exact .inr (by simp[h])
  ·split at h
   ·split at h
    ·exact .inr (by simp[h])
    ·rcases ym7.1 h with rfl|h
     ·exact .inl rfl
     ·exact .inr (by simp[h])
   ·rcases ym7.1 h with rfl|h
    ·exact .inl rfl
    ·exact .inr h
theorem z8h{p:List GMono}{e:Ex}{q:Rat}(hp:PVal p)(he:e.ok=true)(hq:q≠0):PVal (pins p e q):=by
 have okq:∀ {r:Rat},r≠0->(⟨e,rto r⟩:GMono).ok=true:=fun {r} h=>GMono.ok_iff.2 ⟨he,zbf r,by rw[zbe];exact h⟩
 induction p with
 | nil=>exact zaj.2 ⟨fun m hm=>by simp[pins]at hm;rw[hm];exact okq hq,by simp[pins]⟩
 | cons m p ih =>
  have h:=zaj.1 hp;have ho:=(GMono.ok_iff.1 (h.1 m (by simp))).1;have h1:=(yo6.1 h.2).1;simp only[pins];split
  ·rename_i h2;have h3:=zaj.1 (ih hp.tail);refine zaj.2 ⟨fun x hx=>?_,yo6.2 ⟨fun x hx=>?_,h3.2⟩⟩
   ·rcases ym7.1 hx with rfl|hx
    ·exact h.1 x (by simp)
    ·exact h3.1 x hx
   ·rcases z8i hx with h4|h4
    ·rw[h4];exact(Ex.cmp_pos ho he).1 h2
    ·exact h1 x h4
  ·rename_i h2;split
   ·rename_i h3;split
    ·exact hp.tail
    ·rename_i h4;refine zaj.2 ⟨fun x hx=>?_,yo6.2 ⟨fun x hx=>?_,(zaj.1 hp.tail).2⟩⟩
     ·rcases ym7.1 hx with rfl|hx
      ·exact okq h4
      ·exact h.1 x (by simp[hx])
     ·have:=h1 x hx;rw[h3]at this;exact this
   ·rename_i h3;have h4:m.e.code<e.code:=by have h5:¬ (e.code<m.e.code):=fun h=>h2 ((Ex.cmp_pos ho he).2 h);have h6:¬ (m.e.code=e.code):=fun h=>h3 ((Ex.code_inj ho he).1 h);omega
    refine zaj.2 ⟨fun x hx=>?_,yo6.2 ⟨fun x hx=>?_,h.2⟩⟩
    ·rcases ym7.1 hx with rfl|hx
     ·exact okq hq
     ·exact h.1 x hx
    ·rcases ym7.1 hx with rfl|hx
     ·exact h4
     ·exact Int.lt_trans (h1 x hx) h4
theorem yc5(p:List GMono)(e:Ex)(q:Rat)(e':Ex):pc (pins p e q) e'=pc p e'+if e=e' then q else 0:=by
 induction p with
 | nil=>simp only[pins,pc,zbe,yn5,yp0]
 | cons m p ih =>
  simp only[pins];split
  ·simp only[pc,ih,ynm]
  ·split
   ·rename_i h;split
    ·rename_i h2;simp only[pc,h];by_cases h3:e=e'
     ·simp only[ym0 h3];rw[yok (m.coef.v) (pc p e'),ynm,yok m.coef.v q,h2,yn5]
     ·simp[h3,yp0,yn5]
    ·simp only[pc,h,zbe];by_cases h3:e=e'
     ·simp only[ym0 h3];rw[yok q m.coef.v,ynm,ynm,yok q (pc p e')]
     ·simp[h3,yp0,yn5]
   ·simp only[pc,zbe];rw[yok]
theorem zmf{p:List GMono}(e:Ex)(q:Rat)(hp:PVal p):PVal (pput p e q):=by
 rw[zhk];split
 ·exact hp
 ·rename_i h;exact z8h hp (by rcases ymz e.ok with h'|h';exact h';exact absurd (.inl h') h) (fun h'=>h (.inr h'))
theorem zvu(p:List GMono)(e:Ex)(q:Rat)(e':Ex):pc (pput p e q) e'=pc p e'+if e.ok=true/\e=e' then q else 0:=by
 rw[zhk];split
 ·rename_i h;rcases h with h|h
  ·simp[h,yn5]
  ·simp[h,yn5]
 ·rename_i h;have:e.ok=true:=by rcases ymz e.ok with h'|h';exact h';exact absurd (.inl h') h
  rw[yc5];simp[this]
theorem za0{p:List GMono}(h:PVal p):p.length<=216:=by
 have h1:=zaj.1 h;have:∀ (p:List GMono) (n:Int),(∀ m∈p,0<=m.e.code/\m.e.code<n)->p.Pairwise (fun x y=>y.e.code<x.e.code)->(p.length:Int)<=n\/p=[]:=by
  intro p
  induction p with
  | nil=>intro n _ _;exact .inr rfl
  | cons m p ih =>
   intro n h2 h3;have h4:=yo6.1 h3;rcases ih m.e.code (fun x hx=>⟨(h2 x (by simp[hx])).1,h4.1 x hx⟩) h4.2 with h5|h5
   ·have:=h2 m (by simp);left;simp;omega
   ·have:=h2 m (by simp);left;subst h5;simp;omega
 rcases this p 216 (fun m hm=>Ex.code_lt (GMono.ok_iff.1 (h1.1 m hm)).1) h1.2 with h2|h2
 ·omega
 ·simp[h2]
end Go.Ab
namespace Go.Ab
open Enc (enc)
attribute [local go_sem] zal Opd.slots
theorem ztx{p:List GMono}(hp:PVal p){m:GMono}(hm:m∈p):pc p m.e=m.coef.v:=by
 induction p with
 | nil=>simp at hm
 | cons x p ih =>
  rcases ym7.1 hm with rfl|hm
  ·exact zhn hp
  ·have h1:=(yo6.1 (zaj.1 hp).2).1 m hm;have h2:x.e≠m.e:=fun h=>by rw[h]at h1;omega
   simp only[pc,ym1 h2,yp0];exact ih hp.tail hm
theorem yc4{p:List GMono}(hp:PVal p)(k:Nat)(e:Ex):pc (p.take k) e=0\/pc (p.take k) e=pc p e:=by
 induction p generalizing k with
 | nil=>simp[pc]
 | cons x p ih =>
  cases k with
  | zero=>simp[pc]
  | succ k =>
   by_cases h:x.e=e
   ·right;subst h;rw[zhn hp,yqk];simp only[pc,ym2];rw[zit,yn5];intro y hy he;have:=(yo6.1 (zaj.1 hp).2).1 y (yn2 hy);rw[he]at this;omega
   ·simp only[yqk,pc,ym1 h,yp0];exact ih hp.tail k
def pqb(D B:Nat)(p:List GMono):Prop:=∀ e,qb D B (pc p e)
theorem zee{D B n:Nat}{p:List GMono}(h:pqb D B p)(hp:PVal p)(hD:D≠0)(h1:D<4294967296^n)(h2:B<4294967296^n):psm p n:=by intro m hm;have h3:=GMono.ok_iff.1 ((zaj.1 hp).1 m hm);have:=zvj (h m.e) hD h1 h2;rw[ztx hp hm,zf0 h3.2.1]at this;exact this
theorem zvp(D:Nat):pqb D 0 []:=fun _=>zis D
theorem zvo{D B B':Nat}{p:List GMono}(h:pqb D B p){q:Rat}(hq:qb D B' q)(hD:D≠0)(e:Ex):pqb D (B+B') (pput p e q):=by
 intro e';rw[zvu];split
 ·exact ztm (h e') hq hD
 ·exact zbh (by rw[yn5];exact h e') (by omega)
theorem zhp:PVal []:=fun i h=>by simp at h
def padd(p q:List GMono):List GMono:=q.foldl (fun o m=>pput o m.e m.coef.v) p
theorem zcf{p:List GMono}(q:List GMono)(hp:PVal p):PVal (padd p q):=by
 induction q generalizing p with
 | nil=>exact hp
 | cons m q ih=>exact ih (zmf _ _ hp)
theorem ze2(p:List GMono){q:List GMono}(hq:∀ m∈q,m.ok=true)(e:Ex):pc (padd p q) e=pc p e+pc q e:=by
 induction q generalizing p with
 | nil=>simp[padd,pc,yn5]
 | cons m q ih =>
  have:=ih (pput p m.e m.coef.v) fun x hx=>hq x (by simp[hx]);show pc (padd (pput p m.e m.coef.v) q) e=_;rw[this,zvu];have:=(GMono.ok_iff.1 (hq m (by simp))).1;simp[pc,this,ynm]
theorem PVal.take{p:List GMono}(hp:PVal p)(k:Nat):PVal (p.take k):=by have:=zaj.1 hp;exact zaj.2 ⟨fun x hx=>this.1 x (yn2 hx),this.2.sublist (List.take_sublist _ _)⟩
theorem z8b{D B:Nat}{p:List GMono}(h:pqb D B p)(hp:PVal p)(k:Nat):pqb D B (p.take k):=by
 intro e;rcases yc4 hp k e with h1|h1
 ·rw[h1];exact zbh (zis D) (by omega)
 ·rw[h1];exact h e
theorem z23{D B B':Nat}{p q:List GMono}(h:pqb D B p)(h':pqb D B' q)(hq:PVal q)(hD:D≠0):pqb D (B+B') (padd p q):=by intro e;rw[ze2 p (zaj.1 hq).1];exact ztm (h e) (h' e) hD
theorem zo4{p q:List GMono}{k:Nat}(h:k<q.length):padd p (q.take (k+1))=pput (padd p (q.take k)) q[k].e q[k].coef.v:=by unfold padd;rw[ymr h,ynn];rfl
theorem z6t(p q:List GMono)(D B B':Nat)(hp:PVal p)(hq:PVal q)(h1:pqb D B p)(h2:pqb D B' q)(hD0:D≠0)(hD:D<4294967296^1048576)(hB:B+B'<4294967296^1048576) :
  Sp P F.fu [.sl (ens p),.sl (ens q)] (.pure (.sl (ens (padd p q)))):=by
 have hbp:psm p 1048576:=zee h1 hp hD0 hD (ynh (yre _ _) hB);have hbq:psm q 1048576:=zee h2 hq hD0 hD (ynh (Nat.le_add_left _ _) hB);have hpl:=za0 hp;have hql:=za0 hq;have hb:∀ k,psm (padd p (q.take k)) 1048576:=fun k=>zee (z23 h1 (z8b h2 hq k) (hq.take k) hD0) (zcf _ hp) hD0 hD hB;clear hD hB;refine Sp.vz c.fu fun _=>?_;simp[g.fu,go_sem];refine zaa (zh8 p hbp (by omega)) rfl ?_;simp[go_sem];refine zaa (zh8 q hbq (by omega)) rfl ?_;simp[go_sem,zoz hp,zoz hq]
 refine zai (S:=fun k:Nat=>mkSt [(1,.p (.sl (ens q))),(5,.p (.sl (ens (padd p (q.take k))))),(6,.p (.int .i64 k))] []) (I:=fun k=>k<=q.length) (m:=fun k=>q.length - k) 0
  (Weak.to [1,5,6] [] (by simp[go_sem,padd])) (by omega) ?_
 rintro k h3 R hn hr hx;have e1:=i64s k (by omega);simp[g.qe,mkSt,go_sem];refine⟨fun hk=>?_,fun hk=>hx _ _ ?_⟩
 ·refine zae hk ?_;have hv:=zcf (q.take k) hp;have hl:=za0 hv;refine zaa (zvl (padd p (q.take k)) q[k] (hb k) (by omega) (hbq _ (ym3 hk)) (GMono.ok_iff.1 (hq k hk).1).2.1) rfl ?_;simp[go_sem,e1];exact hn (k+1) _ (Weak.to [1,5,6] [] (by simp[go_sem,zo4 hk])) (by omega) (by omega)
 ·have:k=q.length:=by omega
  subst this;simp[go_sem]
def Ex.add(x y:Ex):Ex:=⟨x.a+y.a,x.b+y.b,x.c+y.c⟩
def prow(m:GMono)(q:List GMono)(o:List GMono):List GMono:=q.foldl (fun o m'=>pput o (m.e.add m'.e) (m.coef.v*m'.coef.v)) o
def pmul(p q:List GMono):List GMono:=p.foldl (fun o m=>prow m q o) []
theorem zo0{m:GMono}{o q:List GMono}{k:Nat}(h:k<q.length):prow m (q.take (k+1)) o=pput (prow m (q.take k) o) (m.e.add q[k].e) (m.coef.v*q[k].coef.v):=by unfold prow;rw[ymr h,ynn];rfl
theorem zo2{p q:List GMono}{k:Nat}(h:k<p.length):pmul (p.take (k+1)) q=prow p[k] q (pmul (p.take k) q):=by unfold pmul;rw[ymr h,ynn];rfl
theorem zia{m:GMono}(q:List GMono){o:List GMono}(h:PVal o):PVal (prow m q o):=by
 induction q generalizing o with
 | nil=>exact h
 | cons x q ih=>exact ih (zmf _ _ h)
theorem zbt(p q:List GMono):PVal (pmul p q):=by
 suffices ∀ o,PVal o->PVal (p.foldl (fun o m=>prow m q o) o) from this [] zhp
 induction p with
 | nil=>exact fun o h=>h
 | cons x p ih=>exact fun o h=>ih _ (zia q h)
theorem zvm{D D' B B' C:Nat}{m:GMono}{q o:List GMono}(hm:qb D B m.coef.v)(hq:∀ x∈q,qb D' B' x.coef.v)(ho:pqb (D*D') C o)(hD:D*D'≠0):pqb (D*D') (C+q.length*(B*B')) (prow m q o):=by
 induction q generalizing o C with
 | nil=>simpa[prow]using ho
 | cons x q ih =>
  have:=ih (fun y hy=>hq y (by simp[hy])) (zvo ho (z21 hm (hq x (by simp))) hD (m.e.add x.e));intro e;refine zbh (this e) ?_;simp[yn7];omega
theorem zkp{D D' B B':Nat}{p q:List GMono}(hp:∀ x∈p,qb D B x.coef.v)(hq:∀ x∈q,qb D' B' x.coef.v)(hD:D*D'≠0):pqb (D*D') (p.length*(q.length*(B*B'))) (pmul p q):=by
 suffices ∀ o C,pqb (D*D') C o->pqb (D*D') (C+p.length*(q.length*(B*B'))) (p.foldl (fun o m=>prow m q o) o) by have:=this [] 0 (zvp _);rw[yn6]at this;exact this
 induction p with
 | nil=>intro o C h;simpa using h
 | cons x p ih =>
  intro o C h;have:=ih (fun y hy=>hp y (by simp[hy])) _ _ (zvm (hp x (by simp)) hq h hD);intro e;refine zbh (this e) ?_;simp[yn7];omega
theorem zcw{D B:Nat}{p:List GMono}(h:pqb D B p)(hp:PVal p):∀ x∈p,qb D B x.coef.v:=fun x hx=>by rw[<- ztx hp hx];exact h _
theorem z4e(p q:List GMono)(D D' B B':Nat)(hp:PVal p)(hq:PVal q)(h1:pqb D B p)(h2:pqb D' B' q)(hD0:D≠0)(hD0':D'≠0)(hD:D*D'<4294967296^1048576)
  (hB:46656*(B*B')<4294967296^1048576) (hs:psm p 524288) (hs':psm q 524288) :
  Sp P F.fw [.sl (ens p),.sl (ens q)] (.pure (.sl (ens (pmul p q)))):=by
 have hpl:=za0 hp;have hql:=za0 hq;have c1:=zcw h1 hp;have c2:=zcw h2 hq;have hDD:D*D'≠0:=yoj hD0 hD0';have hpr:∀ x∈p,∀ y∈q,(rto (x.coef.v*y.coef.v)).sm 1048576:=fun x hx y hy=>(zpr (hs x hx) (hs' y hy) (by omega)).mono (by omega);have hb:∀ i k,(h:i<p.length)->psm (prow p[i] (q.take k) (pmul (p.take i) q)) 1048576:=fun i k h=>by
  have h3:=zvm (m:=p[i]) (q:=q.take k) (c1 _ (ym3 h)) (fun x hx=>c2 x (yn2 hx)) (zkp (p:=p.take i) (fun x hx=>c1 x (yn2 hx)) c2 hDD) hDD;refine zee h3 (zia _ (zbt _ _)) hDD hD (ynh ?_ hB);have h4:(p.take i).length+1<=216:=by simp;omega
  have h5:(q.take k).length<=216:=by simp;omega
  generalize B*B'=C at *
  calc (p.take i).length*(q.length*C)+(q.take k).length*C<=(p.take i).length*(216*C)+1*(216*C):=Nat.add_le_add (yo5 _ (ymu _ hql)) (by rw[Nat.one_mul];exact ymu _ h5)
   _=((p.take i).length+1)*(216*C):=by rw[yn7]
   _<=216*(216*C):=ymu _ h4
   _=46656*C:=by omega
 clear hD hB;refine Sp.vz c.fw fun _=>?_;simp[g.fw,go_sem];refine zaa (zh8 p (hs.mono (by omega)) (by omega)) rfl ?_;simp[go_sem];refine zaa (zh8 q (hs'.mono (by omega)) (by omega)) rfl ?_;simp[go_sem,zoz hp,zoz hq]
 refine zai (S:=fun i:Nat=>mkSt [(0,.p (.sl (ens p))),(1,.p (.sl (ens q))),(5,.p (.sl (ens (pmul (p.take i) q)))),(6,.p (.int .i64 i))] []) (I:=fun i=>i<=p.length) (m:=fun i=>p.length - i) 0
  ((Weak.freeze (t:=5) rfl).trans (Weak.to [0,1,5,6] [] (by simp[go_sem,pmul]))) (by omega) ?_
 rintro i h3 R hn hr hx;have e1:=i64s i (by omega);simp[g.qg,mkSt,go_sem];refine⟨fun hi=>?_,fun hi=>hx _ _ ?_⟩;rotate_left
 ·have:i=p.length:=by omega
  subst this;simp[go_sem]
 clear hx hr
 refine zai (S:=fun k:Nat=>mkSt [(0,.p (.sl (ens p))),(1,.p (.sl (ens q))),(5,.p (.sl (ens (prow p[i] (q.take k) (pmul (p.take i) q))))),(6,.p (.int .i64 i)),(7,.p (.int .i64 k))] []) (I:=fun k=>k<=q.length) (m:=fun k=>q.length - k) 0
  (Weak.to [0,1,5,6,7] [] (by simp[go_sem,prow])) (by omega) ?_
 rintro k h4 R2 hn2 hr2 hx2;have e2:=i64s k (by omega);simp[g.qf,mkSt,go_sem];refine⟨fun hk=>?_,fun hk=>hx2 _ _ ?_⟩;rotate_left
 ·have:k=q.length:=by omega
  subst this;simp[go_sem,e1];exact hn (i+1) _ (Weak.to [0,1,5,6] [] (by simp[go_sem,zo2 hi])) (by omega) (by omega)
 clear hx2 hr2 hn;refine zae hi ?_;refine zae hk ?_;refine zaa (zv4 p[i].coef q[k].coef ((hs _ (ym3 hi)).mono (by omega)) ((hs' _ (ym3 hk)).mono (by omega))) rfl ?_;simp[go_sem];have eok:∀ {e:Ex},e.ok=true->(-100<e.a/\e.a<100)/\(-100<e.b/\e.b<100) /\ -100<e.c/\e.c<100:=fun h=>by rw[Ex.ok_iff]at h;omega
 have o1:=eok (GMono.ok_iff.1 (hp i hi).1).1;have o2:=eok (GMono.ok_iff.1 (hq k hk).1).1;have ea:IntKind.i64.wrap (p[i].e.a+q[k].e.a)=p[i].e.a+q[k].e.a:=i64w (by omega) (by omega);have eb:IntKind.i64.wrap (p[i].e.b+q[k].e.b)=p[i].e.b+q[k].e.b:=i64w (by omega) (by omega);have ec:IntKind.i64.wrap (p[i].e.c+q[k].e.c)=p[i].e.c+q[k].e.c:=i64w (by omega) (by omega);refine zan fun R3 hn3 hr3 hx3=>?_;simp[g.nc,go_sem];refine zae hi ?_;refine zae hk ?_;simp[go_sem,ea];refine hn3 _ ?_;clear hn3 hx3 hr3;refine zan fun R3 hn3 hr3 hx3=>?_;simp[g.nc,go_sem];refine zae hi ?_;refine zae hk ?_;simp[go_sem,eb];refine hn3 _ ?_;clear hn3 hx3 hr3;refine zan fun R3 hn3 hr3 hx3=>?_;simp[g.nc,go_sem];refine zae hi ?_;refine zae hk ?_;simp[go_sem,ec];refine hn3 _ ?_;clear hn3 hx3 hr3;refine zan fun R3 hn3 hr3 hx3=>?_;simp[g.nc,go_sem];refine hx3 _ _ ?_;clear hn3 hx3 hr3;simp[go_sem];have hv:=zia (m:=p[i]) (q.take k) (zbt (p.take i) q);have hl:=za0 hv;refine zaa (zvl (prow p[i] (q.take k) (pmul (p.take i) q)) ⟨p[i].e.add q[k].e,rto (p[i].coef.v*q[k].coef.v)⟩ (hb i k hi) (by omega) (hpr _ (ym3 hi) _ (ym3 hk)) (zbf _)) rfl ?_;simp[go_sem,e2];exact hn2 (k+1) _ (Weak.to [0,1,5,6,7] [] (by simp[go_sem,zo0 hk,zbe])) (by omega) (by omega)
theorem zhy(x:GRat)(hx:x.sm 1048576):Sp P F.bz [enc x] (.pure (.sl (ens (pput [] ⟨0,0,0⟩ x.v)))):=by refine Sp.vz c.bz fun _=>?_;simp[g.bz,go_sem];refine zaa (zdz x (hx.mono (by omega))) rfl ?_;simp[go_sem];have:=zvl [] ⟨⟨0,0,0⟩,rto x.v⟩ (by intro m hm;simp at hm) (by simp) (z2q hx) (zbf _);rw[zbe]at this;refine zaa this rfl ?_;simp[go_sem]
def zb6(q:Rat):List GMono:=pput [] ⟨0,0,0⟩ q
theorem zeu(q:Rat):PVal (zb6 q):=zmf _ _ zhp
theorem zvs{q:Rat}{m:GMono}(h:m∈zb6 q):m.coef=rto q:=by
 unfold zb6 at h;rw[zhk]at h;split at h
 ·simp at h
 ·simp[pins]at h;rw[h]
theorem z2o(p:List GMono)(x:GRat)(D D' B B':Nat)(hp:PVal p)(h1:pqb D B p)(h2:qb D' B' x.v)(hD0:D≠0)(hD0':D'≠0)(hD:D*D'<4294967296^1048576)
  (hB:46656*(B*B')<4294967296^1048576) (hs:psm p 524288) (hs':x.sm 524288) :
  Sp P F.j0 [.sl (ens p),enc x] (.pure (.sl (ens (pmul p (zb6 x.v))))):=by
 have h3:pqb D' B' (zb6 x.v):=fun e=>by have:=zvo (zvp D') h2 hD0' ⟨0,0,0⟩ e;rw[yn6]at this;exact this
 have h4:psm (zb6 x.v) 524288:=fun m hm=>by rw[zvs hm];exact z2q hs'
 have h5:=z4e p (zb6 x.v) D D' B B' hp (zeu _) h1 h3 hD0 hD0' hD hB hs h4;clear hD hB;refine Sp.vz c.j0 fun _=>?_;simp[g.j0,go_sem];refine zaa (zhy x (hs'.mono (by omega))) rfl ?_;simp[go_sem];refine zaa h5 rfl ?_;simp[go_sem]
def Ex.unit(i:Int):Ex:=if i=0 then⟨1,0,0⟩else if i=1 then⟨0,1,0⟩else⟨0,0,1⟩
def zdo(i:Int):List GMono:=if 0<=i/\i<3 then[⟨Ex.unit i,rto 1⟩]else[]
theorem zra(i:Int):Sp P F.j3 [.int .i64 i] (.pure (.sl (ens (zdo i)))):=by
 refine Sp.vz c.j3 fun _=>?_;simp[g.j3,go_sem];have hof:=zho 1 1 (by omega) (by omega) (by omega);have hd:Rat.divInt 1 1=1:=rfl;rw[hd]at hof;refine⟨fun h=>by simp[zdo,show ¬ 0<=i by omega,go_sem],fun h=>⟨fun h2=>by simp[zdo,show ¬ i<3 by omega,go_sem],fun h2=>?_⟩⟩;refine zaa hof rfl ?_;have h3:i=0\/i=1\/i=2:=by omega
 rcases h3 with rfl|rfl|rfl
 ·simp[zdo,Ex.unit,go_sem]
 ·simp[zdo,Ex.unit,go_sem]
 ·simp[zdo,Ex.unit,go_sem]
theorem z7z(p q:List GMono)(hp:psm p 1048576)(hl:p.length<=1073741824):Sp P F.jn [.sl (ens p),.sl (ens q)] (.pure (.bool (decide (p=q)))):=by
 refine Sp.vz c.jn fun _=>?_;simp[g.jn,go_sem];refine⟨fun h=>?_,fun h=>fun he=>h (by rw[he])⟩;have hlen:p.length=q.length:=by omega
 refine zai (S:=fun k:Nat=>mkSt [(0,.p (.sl (ens p))),(1,.p (.sl (ens q))),(5,.p (.int .i64 k))] []) (I:=fun k=>k<=p.length/\p.take k=q.take k) (m:=fun k=>p.length - k) 0
  (Weak.to [0,1,5] [] (by simp[go_sem])) ⟨by omega,by simp⟩ ?_
 rintro k ⟨h1,h2⟩ R hn hr hx;have e1:=i64s k (by omega);simp[g.p9,mkSt,go_sem];refine⟨fun hk=>?_,fun hk=>hx _ _ ?_⟩
 ·have hk2:k<q.length:=by omega
  have bad:p[k]≠q[k]->p≠q:=fun h h'=>by subst h';exact h rfl
  refine zae hk ?_;refine zae hk2 ?_;refine⟨fun h3=>hr _ ?_,fun h3 h4 h5=>?_⟩
  ·have:p≠q:=bad fun h=>by rw[h]at h3;simp at h3
   simp[this,go_sem]
  refine zae hk ?_;refine zae hk2 ?_;refine zaa (zcn p[k].coef q[k].coef ((hp _ (ym3 hk)).mono (by omega))) rfl ?_;by_cases h6:p[k].coef=q[k].coef
  ·simp[h6,e1,go_sem];have h7:p[k]=q[k]:=by
    have:p[k].e=q[k].e:=by generalize p[k].e=x at *;generalize q[k].e=y at *;cases x;cases y;simp at h3 h4 h5;simp[h3,h4,h5]
    generalize p[k]=x at *;generalize q[k]=y at *;cases x;cases y;simp at this h6;simp[this,h6]
   exact hn (k+1) _ (Weak.to [0,1,5] [] (by simp[go_sem])) ⟨by omega,by rw[ymr hk,ymr hk2,h2,h7]⟩ (by omega)
  ·have h8:p≠q:=bad fun h=>h6 (by rw[h]);simp[h6,go_sem];exact hr _ (by simp[h8,go_sem])
 ·have h3:p=q:=by rw[<- List.take_length (l:=p),<- List.take_length (l:=q),<- hlen,show p.length=k by omega];exact h2
  simp[h3,go_sem]
inductive GW where
 | mk (q:GRat) (cost:Int) (inf:Bool) (set:UInt64) (poly:List GMono) (parts:List GW)
namespace GW
def q:GW->GRat|mk q _ _ _ _ _=>q
def cost:GW->Int|mk _ c _ _ _ _=>c
def inf:GW->Bool|mk _ _ i _ _ _=>i
def set:GW->UInt64|mk _ _ _ s _ _=>s
def poly:GW->List GMono|mk _ _ _ _ p _=>p
def parts:GW->List GW|mk _ _ _ _ _ ps=>ps
mutual
def en:GW->PV
 | mk q c i s p ps=>.agg [.bool q.neg,.sl (ens q.num),.sl (ens q.den),.int .i64 c,.bool i,.int .u64 s.toNat,.sl (ens p),.sl (ensW ps)]
def ensW:List GW->List PV
 | []=>[]
 | w::ps=>en w::ensW ps
end
end GW
instance:Enc GW:=⟨GW.en,8,by decide,fun w=>by cases w;simp[GW.en];rfl⟩
theorem yea(ps:List GW):GW.ensW ps=ens ps:=by
 induction ps with
 | nil=>simp[GW.ensW,ens]
 | cons w ps ih=>simp[GW.ensW,ens,ih];rfl
@[go_sem] theorem zwj(w:GW):enc w=.agg [.bool w.q.neg,.sl (ens w.q.num),.sl (ens w.q.den),.int .i64 w.cost,.bool w.inf,.int .u64 w.set.toNat,.sl (ens w.poly),.sl (ens w.parts)]:=by cases w;show GW.en _=_;simp[GW.en,yea];simp[GW.q,GW.cost,GW.inf,GW.set,GW.poly,GW.parts]
@[go_sem] theorem yla:Enc.sz GW=8:=rfl
theorem GW.ext{v w:GW}(h1:v.q=w.q)(h2:v.cost=w.cost)(h3:v.inf=w.inf)(h4:v.set=w.set)(h5:v.poly=w.poly)(h6:v.parts=w.parts):v=w:=by cases v;cases w;simp[GW.q,GW.cost,GW.inf,GW.set,GW.poly,GW.parts]at *;simp[*]
noncomputable instance:DecidableEq GW:=fun _ _=>Classical.propDecidable _
structure GRing where
 kind:Int
 parts:List Int
 deriving DecidableEq
instance:Enc GRing:=⟨fun r=>.agg [.int .i64 r.kind,.sl (ens r.parts)],2,by decide,fun _=>rfl⟩
@[go_sem] theorem yja(r:GRing):enc r=.agg [.int .i64 r.kind,.sl (ens r.parts)]:=rfl
@[go_sem] theorem ye2:Enc.sz GRing=2:=rfl
def GRing.ok(r:GRing):Bool:=if r.kind=6 then decide (2<=r.parts.length/\r.parts.length<=3/\∀ k∈r.parts,1<=k/\k<=5)else decide (1<=r.kind/\r.kind<=5/\r.parts=[])
theorem zax(r:GRing):Sp P F.bc [enc r] (.pure (.bool r.ok)):=by
 refine Sp.vz c.bc fun _=>?_;simp[g.bc,go_sem];refine⟨fun h6=>⟨fun h=>?_,fun h=>⟨fun h2=>?_,fun h2=>?_⟩⟩,fun h6=>⟨fun h=>⟨fun h2=>?_,fun h2=>?_⟩,fun h=>?_⟩⟩
 ·simp[GRing.ok,h6];intro h';omega
 ·simp[GRing.ok,h6];intro h' h'';omega
 rotate_left
 ·simp[GRing.ok,h6,h,h2]
 ·simp[GRing.ok,h6];intro h';omega
 ·simp[GRing.ok,h6];intro h';omega
 refine zai (S:=fun k:Nat=>mkSt [(1,.ptr 1 0 0 0),(3,.p (.int .i64 k))] [(1,⟨2,[.p (enc r)]⟩)]) (I:=fun k=>k<=r.parts.length/\∀ i,(h:i<r.parts.length)->i<k->1<=r.parts[i]/\r.parts[i]<=5) (m:=fun k=>r.parts.length - k) 0
  (Weak.to [1,3] [((1,0),1)] (by simp[go_sem])) ⟨by omega,fun i h h0=>by omega⟩ ?_
 rintro k ⟨h3,h4⟩ R hn hr hx;have e1:=i64s k (by omega);simp[g.qd,mkSt,go_sem];refine⟨fun hk=>?_,fun hk=>hx _ _ ?_⟩
 ·have bad:¬ (1<=r.parts[k]/\r.parts[k]<=5)->r.ok=false:=fun hb=>by simp only[GRing.ok,ym0 h6,decide_eq_false_iff_not];exact fun h'=>hb (h'.2.2 _ (ym3 hk))
  refine zae hk ?_;refine⟨fun h5=>hr _ ?_,fun h5=>?_⟩
  ·simp[bad (by omega),go_sem]
  refine zae hk ?_;simp[e1,go_sem];refine⟨fun h7=>hr _ ?_,fun h7=>hn (k+1) _ (Weak.to [1,3] [((1,0),1)] (by simp[go_sem])) ⟨by omega,fun i h hi=>?_⟩ (by omega)⟩
  ·simp[bad (by omega),go_sem]
  ·by_cases hik:i<k
   ·exact h4 i h hik
   ·have:i=k:=by omega
    subst this;omega
 ·have:r.ok=true:=by simp only[GRing.ok,ym0 h6,decide_eq_true_eq];refine⟨by omega,by omega,fun x hx=>?_⟩;obtain⟨i,hi,rfl⟩:=List.getElem_of_mem hx;exact h4 i hi (by omega)
  simp[this,go_sem]
inductive GW.sm (n:Nat):GW->Prop
 | mk {q:GRat} {c:Int} {i:Bool} {s:UInt64} {p:List GMono} {ps:List GW}:q.sm n->psm p n->p.length<=n->ps.length<=n->(∀ w∈ps,GW.sm n w)->GW.sm n (.mk q c i s p ps)
theorem GW.sm.q{n:Nat}{w:GW}(h:w.sm n):w.q.sm n:=by cases h;assumption
theorem GW.sm.poly{n:Nat}{w:GW}(h:w.sm n):psm w.poly n:=by cases h;assumption
theorem GW.sm.len{n:Nat}{w:GW}(h:w.sm n):w.poly.length<=n:=by cases h;assumption
theorem GW.sm.plen{n:Nat}{w:GW}(h:w.sm n):w.parts.length<=n:=by cases h;assumption
theorem GW.sm.parts{n:Nat}{w:GW}(h:w.sm n):∀ x∈w.parts,x.sm n:=by cases h;assumption
theorem GW.sm.ind{n:Nat}{M:GW->Prop}(h:∀ v,v.sm n->(∀ w∈v.parts,M w)->M v):∀ v,v.sm n->M v:=by
 intro v hv
 induction hv with|@mk q c i s p ps hq hp hpl hps hw ih=>exact h _ (.mk hq hp hpl hps hw) ih
theorem zoj(v:GW)(hv:v.sm 1048576):∀ w:GW,Sp P F.bv [enc v,enc w] (.pure (.bool (decide (v=w)))):=by
 revert v;refine GW.sm.ind fun v hv ih w=>?_;refine Sp.vz c.bv fun hok=>?_;simp[g.bv,go_sem];refine zaa (zcn v.q w.q (hv.q.mono (by omega))) rfl ?_;simp[go_sem];refine⟨fun h1=>⟨fun h2=>⟨fun h3=>⟨fun h4=>?_,fun h4 h=>h4 (by rw[h])⟩,fun h3 h=>h3 (by rw[h])⟩,fun h2 h=>h2 (by rw[h])⟩,fun h1 h=>h1 (by rw[h])⟩;have h4:v.set=w.set:=UInt64.toNat_inj.1 (by omega);refine zaa (z7z v.poly w.poly hv.poly (by have:=hv.len;omega)) rfl ?_;simp[go_sem];refine⟨fun h5=>⟨fun h6=>?_,fun h6 h=>h6 (by rw[h])⟩,fun h5 h=>h5 (by rw[h])⟩;have hlen:v.parts.length=w.parts.length:=by omega
 have hmax:=hv.plen
 refine zai (S:=fun k:Nat=>mkSt [(2,.ptr 1 0 0 0),(3,.ptr 2 0 0 0),(5,.p (.int .i64 k))] [(1,⟨8,[.p (enc v)]⟩),(2,⟨8,[.p (enc w)]⟩)]) (I:=fun k=>k<=v.parts.length/\v.parts.take k=w.parts.take k) (m:=fun k=>v.parts.length - k) 0
  (Weak.to [2,3,5] [((2,0),1),((3,0),2)] (by simp[go_sem])) ⟨by omega,by simp⟩ ?_
 rintro k ⟨h7,h8⟩ R hn hr hx;have e1:=i64s k (by omega);simp[g.pe,mkSt,go_sem];refine⟨fun hk=>?_,fun hk=>hx _ _ ?_⟩
 ·have hk2:k<w.parts.length:=by omega
  refine zae hk ?_;refine zae hk2 ?_;refine zaa (ih _ (ym3 hk) w.parts[k]) ?_ ?_
  ·simp[go_sem]
  simp[e1,go_sem];refine⟨fun h9=>?_,fun h9=>?_⟩
  ·exact hn (k+1) _ (Weak.to [2,3,5] [((1,0),1),((2,0),2)] (by simp[go_sem])) ⟨by omega,by rw[ymr hk,ymr hk2,h8,h9]⟩ (by omega)
  ·refine hr _ ?_;have:v≠w:=fun h=>h9 (by subst h;rfl);simp[this,go_sem]
 ·have h9:v=w:=by refine GW.ext h1 h2 h3 h4 h5 ?_;rw[<- List.take_length (l:=v.parts),<- List.take_length (l:=w.parts),<- hlen,show v.parts.length=k by omega];exact h8
  simp[h9,go_sem]
theorem zjr(r:GRing)(i:Nat)(h:i<r.parts.length):Sp P F.bm [enc r,.int .i64 i] (.pure (enc (⟨r.parts[i],[]⟩:GRing))):=by refine Sp.vz c.bm fun _=>?_;simp[g.bm,go_sem];refine zae h ?_;simp[go_sem]
end Go.Ab
namespace Go.Ab
section
variable {α : Type} (key : α -> List Int) (up : α -> α -> α) (nw : α -> α)
def mst(out:List α)(y : α):List α :=
 match out with
 | []=>[nw y]
 | [z]=>if key z=key y then[up z y]else[z,nw y]
 | z::r=>z::mst r y
def mrg(l:List α):List α := l.foldl (mst key up nw) []
def insR(s:List α)(x : α):List α :=
 match s with
 | []=>[x]
 | z::r=>if key x<key z then x::z::r else z::insR r x
def insF(out:List α)(x : α):List α :=
 match out with
 | []=>[nw x]
 | z::r=>if key z<key x then z::insF r x else if key z=key x then up z x::r else nw x::z::r
def srt(l:List α):List α := l.foldl (insR key) []
def nfm(l:List α):List α := l.foldl (insF key up nw) []
variable {key up nw} (hup:∀ a b,key (up a b)=key a) (hnw:∀ a,key (nw a)=key a)
theorem zrx(a b:List Int):a<b\/a=b\/b<a:=by
 by_cases h:a<b
 ·exact .inl h
 ·by_cases h2:b<a
  ·exact .inr (.inr h2)
  ·exact .inr (.inl (List.le_antisymm (List.not_lt.1 h2) (List.not_lt.1 h)))
theorem z41{a b c:List Int}(h:¬ b<a)(k:b<c):a<c:=by
 rcases zrx a b with h1|h1|h1
 ·exact List.lt_trans h1 k
 ·rw[h1];exact k
 ·exact absurd h1 h
theorem zn2{a b c:List Int}(h:a<b)(k:¬ c<b):a<c:=by
 rcases zrx b c with h1|h1|h1
 ·exact List.lt_trans h h1
 ·rw[<- h1];exact h
 ·exact absurd h1 k
theorem yhh(out:List α)(y : α):mst key up nw out y≠[]:=by
 match out with
 | []=>simp[mst]
 | [z]=>simp only[mst];split<;>simp
 | z::w::r=>simp[mst]
theorem znr(z : α){r:List α}(y : α)(h:r≠[]):mst key up nw (z::r) y=z::mst key up nw r y:=by
 match r with
 | []=>exact absurd rfl h
 | w::r=>rfl
theorem zrm(o:List α){r:List α}(y : α)(h:r≠[]):mst key up nw (o++r) y=o++mst key up nw r y:=by
 induction o with
 | nil=>rfl
 | cons z o ih=>rw[yoy,znr z y (by simp[h]),ih];rfl
theorem zy1(o:List α):∀ (l:List α) {r:List α},r≠[]->l.foldl (mst key up nw) (o++r)=o++l.foldl (mst key up nw) r
 | [],r,_=>rfl
 | y::l,r,h=>by simp only[ype];rw[zrm o y h];exact zy1 o l (yhh r y)
include hup hnw in
theorem zrl(out:List α)(y : α):∃ o z,mst key up nw out y=o++[z]/\key z=key y:=by
 match out with
 | []=>exact⟨[],nw y,rfl,hnw y⟩
 | [z] =>
  simp only[mst];split
  ·rename_i h;exact⟨[],up z y,rfl,by rw[hup,h]⟩
  ·exact⟨[z],nw y,rfl,hnw y⟩
 | z::w::r =>
  obtain⟨o,u,h1,h2⟩:=zrl (w::r) y;exact⟨z::o,u,by rw[znr z y (by simp),h1];rfl,h2⟩
theorem zrk{o:List α}{z y : α}(h:key z≠key y):mst key up nw (o++[z]) y=o++[z,nw y]:=by rw[zrm o y (by simp)];simp[mst,h]
theorem zv5{o:List α}{z y : α}(h:key z=key y):mst key up nw (o++[z]) y=o++[up z y]:=by rw[zrm o y (by simp)];simp[mst,h]
theorem zy0{o:List α}{z : α}{B:List α}(h:∀ b∈B,key z≠key b):B.foldl (mst key up nw) (o++[z])=o++[z]++mrg key up nw B:=by
 cases B with
 | nil=>simp[mrg]
 | cons b B =>
  simp only[ype,mrg];rw[zrk (h b (by simp))];have:o++[z,nw b]=(o++[z])++[nw b]:=by simp
  rw[this,zy1 (o++[z]) B (by simp)];rfl
def Srt(key : α -> List Int)(l:List α):Prop:=l.Pairwise fun a b=>¬ key b<key a
def SSrt(key : α -> List Int)(l:List α):Prop:=l.Pairwise fun a b=>key a<key b
theorem zyj(l:List α)(y : α):mrg key up nw (l++[y])=mst key up nw (mrg key up nw l) y:=by simp[mrg,ynn]
include hup hnw in
theorem zib:∀ (n:Nat) (l:List α),l.length=n->Srt key l->SSrt key (mrg key up nw l)/\(∀ z∈mrg key up nw l,∃ y∈l,key z=key y)/\(l=[]\/∃ o z o' y,mrg key up nw l=o++[z]/\l=o'++[y]/\key z=key y)
 | 0,l,hl,_=>by
  have:l=[]:=ypn hl;subst this;exact⟨by simp[mrg,SSrt],by simp[mrg],.inl rfl⟩
 | n+1,l,hl,hs=>by
  obtain⟨l',y,rfl⟩:∃ l' y,l=l'++[y]:=⟨l.dropLast,l.getLast (by intro h;simp[h]at hl),(List.dropLast_concat_getLast _).symm⟩;have hl':l'.length=n:=by simpa using hl
  have hs':Srt key l':=(yop.1 hs).1;have hle:∀ a∈l',¬ key y<key a:=fun a ha=>(yop.1 hs).2.2 a ha y (by simp);obtain⟨i1,i2,i3⟩:=zib n l' hl' hs';rw[zyj];obtain⟨o,u,e1,e2⟩:=zrl hup hnw (mrg key up nw l') y;refine⟨?_,?_,.inr ⟨o,u,l',y,e1,rfl,e2⟩⟩
  ·rcases i3 with rfl|⟨o1,z,o',y',f1,f2,f3⟩
   ·simp[mrg,mst,SSrt]
   ·rw[f1]at i1 ⊢;have g:=yop.1 i1;by_cases hk:key z=key y
    ·rw[zv5 hk];refine yop.2 ⟨g.1,by simp,fun a ha b hb=>?_⟩;simp only[yog]at hb;subst hb;rw[hup];exact g.2.2 a ha z (by simp)
    ·rw[zrk hk];have hzy:key z<key y:=by
      rcases zrx (key z) (key y)with h|h|h
      ·exact h
      ·exact absurd h hk
      ·rw[f3]at h;exact absurd h (hle y' (by rw[f2];simp))
     refine yop.2 ⟨g.1,by simp[hnw,hzy],fun a ha b hb=>?_⟩;have haz:=g.2.2 a ha z (by simp);simp only[ym7,yo4,or_false]at hb;rcases hb with rfl|rfl
     ·exact haz
     ·rw[hnw];exact List.lt_trans haz hzy
  ·intro z hz;rcases i3 with rfl|⟨o1,z1,o',y',f1,f2,f3⟩
   ·simp[mrg,mst]at hz;subst hz;exact⟨y,by simp,hnw y⟩
   ·rw[f1]at hz;by_cases hk:key z1=key y
    ·rw[zv5 hk]at hz;rcases ymn.1 hz with h|h
     ·obtain⟨q,q1,q2⟩:=i2 z (by rw[f1];simp[h]);exact⟨q,by simp[q1],q2⟩
     ·simp at h;subst h;exact⟨y,by simp,by rw[hup,hk]⟩
    ·rw[zrk hk]at hz;simp only[ymn,ym7,yo4,or_false]at hz;rcases hz with h|rfl|rfl
     ·obtain⟨q,q1,q2⟩:=i2 z (by rw[f1];simp[h]);exact⟨q,by simp[q1],q2⟩
     ·obtain⟨q,q1,q2⟩:=i2 z (by rw[f1];simp);exact⟨q,by simp[q1],q2⟩
     ·exact⟨y,by simp,hnw y⟩
include hnw in
theorem zr2{x : α}{B:List α}(hB:∀ b∈B,key x<key b):∀ (A:List α),SSrt key A->(∀ a∈A,¬ key x<key a)->insF key up nw (A++B) x=mst key up nw A x++B
 | [],_,_=>by
  cases B with
  | nil=>rfl
  | cons b B =>
   have h:=hB b (by simp);have h1:¬ key b<key x:=List.lt_asymm h;have h2:key b≠key x:=fun e=>by rw[e]at h;exact yp1 _ h
   simp[insF,mst,h1,h2]
 | [z],hs,hle=>by
  rcases zrx (key z) (key x)with h|h|h
  ·have hne:key z≠key x:=fun e=>by rw[e]at h;exact yp1 _ h
   have:=zr2 hB [] (by simp[SSrt]) (by simp);simp only[yom,mst]at this;simp[insF,mst,h,hne,this]
  ·have h2:¬ key x<key x:=yp1 _;simp[insF,mst,h,h2]
  ·exact absurd h (hle z (by simp))
 | z::w::r,hs,hle=>by have hs2:=yo6.1 hs;have hzx:key z<key x:=zn2 (hs2.1 w (by simp)) (hle w (by simp));have ih:=zr2 hB (w::r) hs2.2 (fun a ha=>hle a (by simp[ha]));rw[znr z x (by simp)];simp only[yoy,insF,hzx,ym2]at ih ⊢;rw[<- ih]
theorem zk3(x : α):∀ (s:List α),Srt key s->∃ A B,s=A++B/\insR key s x=A++x::B/\(∀ a∈A,¬ key x<key a)/\(∀ b∈B,key x<key b)
 | [],_=>⟨[],[],rfl,rfl,by simp,by simp⟩
 | z::r,hs=>by
  have hs2:=yo6.1 hs;by_cases h:key x<key z
  ·refine⟨[],z::r,rfl,by simp[insR,h],by simp,fun b hb=>?_⟩;rcases ym7.1 hb with rfl|hb
   ·exact h
   ·exact zn2 h (hs2.1 b hb)
  ·obtain⟨A,B,h1,h2,h3,h4⟩:=zk3 x r hs2.2;exact⟨z::A,B,by rw[h1];rfl,by simp[insR,h,h2],fun a ha=>by
    rcases ym7.1 ha with rfl|ha
    ·exact h
    ·exact h3 a ha,h4⟩
theorem zn4{x : α}{s:List α}(hs:Srt key s):Srt key (insR key s x):=by
 obtain⟨A,B,h1,h2,h3,h4⟩:=zk3 x s hs;rw[h2];rw[h1]at hs;have g:=yop.1 hs;refine yop.2 ⟨g.1,yo6.2 ⟨fun b hb=>List.lt_asymm (h4 b hb),g.2.1⟩,fun a ha b hb=>?_⟩;rcases ym7.1 hb with rfl|hb
 ·exact h3 a ha
 ·exact g.2.2 a ha b hb
include hup hnw in
theorem z8u{x : α}{s:List α}(hs:Srt key s):mrg key up nw (insR key s x)=insF key up nw (mrg key up nw s) x:=by
 obtain⟨A,B,h1,h2,h3,h4⟩:=zk3 x s hs;subst h1;have g:=yop.1 hs;obtain⟨a1,a2,a3⟩:=zib hup hnw A.length A rfl g.1;obtain⟨b1,b2,b3⟩:=zib hup hnw B.length B rfl g.2.1;have hBk:∀ b∈mrg key up nw B,key x<key b:=fun b hb=>by obtain⟨y,y1,y2⟩:=b2 b hb;rw[y2];exact h4 y y1
 have e1:mrg key up nw (A++B)=mrg key up nw A++mrg key up nw B:=by
  rcases a3 with rfl|⟨o,z,o',y,f1,f2,f3⟩
  ·simp[mrg]
  ·have:mrg key up nw (A++B)=B.foldl (mst key up nw) (mrg key up nw A):=by simp[mrg,ynn]
   rw[this,f1];refine zy0 fun b hb=>?_;have hlt:key z<key b:=by rw[f3];exact z41 (h3 y (by rw[f2];simp)) (h4 b hb)
   intro e;rw[e]at hlt;exact yp1 _ hlt
 have e2:mrg key up nw (A++x::B)=mst key up nw (mrg key up nw A) x++mrg key up nw B:=by
  have:mrg key up nw (A++x::B)=B.foldl (mst key up nw) (mst key up nw (mrg key up nw A) x):=by simp[mrg,ynn]
  rw[this];obtain⟨o,u,f1,f2⟩:=zrl hup hnw (mrg key up nw A) x;rw[f1];refine zy0 fun b hb=>?_;intro e;have:=h4 b hb;rw[<- f2,e]at this;exact yp1 _ this
 rw[h2,e1,e2];exact(zr2 hnw hBk _ a1 (fun a ha=>by
  obtain⟨y,y1,y2⟩:=a2 a ha;rw[y2];exact h3 y y1)).symm
include hup hnw in
theorem z4g(l:List α):mrg key up nw (srt key l)=nfm key up nw l/\Srt key (srt key l):=by
 have key':∀ (l s:List α),Srt key s->mrg key up nw (l.foldl (insR key) s)=l.foldl (insF key up nw) (mrg key up nw s)/\Srt key (l.foldl (insR key) s):=by
  intro l
  induction l with
  | nil=>intro s hs;exact⟨rfl,hs⟩
  | cons x l ih =>
   intro s hs;simp only[ype];rw[<- z8u hup hnw hs];exact ih _ (zn4 hs)
 exact key' l [] (by simp[Srt])
end
def lexI:List Int->List Int->Int
 | x::xs,y::ys=>if x<y then -1 else if y<x then 1 else lexI xs ys
 | _,_=>0
theorem zv7:∀ {a b:List Int},a.length=b.length->(lexI a b<0 ↔ a<b)
 | [],[],_=>by simp[lexI]
 | x::xs,y::ys,h=>by
  have ih:=zv7 (a:=xs) (b:=ys) (by simpa using h);simp only[lexI,List.cons_lt_cons_iff];by_cases h1:x<y
  ·simp[h1]
  ·by_cases h2:y<x
   ·simp[h1,h2];omega
   ·have:x=y:=by omega
    subst this;simp[ih]
theorem zv8:∀ {a b:List Int},a.length=b.length->(lexI a b=0 ↔ a=b)
 | [],[],_=>by simp[lexI]
 | x::xs,y::ys,h=>by
  have ih:=zv8 (a:=xs) (b:=ys) (by simpa using h);simp only[lexI,List.cons.injEq];by_cases h1:x<y
  ·simp[h1];omega
  ·by_cases h2:y<x
   ·simp[h1,h2];omega
   ·have:x=y:=by omega
    subst this;simp[ih]
def cmpI(x y:Int):Int:=if x<y then -1 else if y<x then 1 else 0
open Enc (enc)
structure GArc where
 f:Int
 l:Int
 t:Int
 w:GW
structure GTArc where
 f:Int
 i:Int
 o:Int
 t:Int
 w:GW
def GW.cl(w:GW):List PV:=[.bool w.q.neg,.sl (ens w.q.num),.sl (ens w.q.den),.int .i64 w.cost,.bool w.inf,.int .u64 w.set.toNat,.sl (ens w.poly),.sl (ens w.parts)]
instance:Enc GArc:=⟨fun x=>.agg ([.int .i64 x.f,.int .i64 x.l,.int .i64 x.t]++x.w.cl),11,by decide,fun _=>rfl⟩
instance:Enc GTArc:=⟨fun x=>.agg ([.int .i64 x.f,.int .i64 x.i,.int .i64 x.o,.int .i64 x.t]++x.w.cl),12,by decide,fun _=>rfl⟩
@[go_sem] theorem ylf(x:GArc):enc x=.agg [.int .i64 x.f,.int .i64 x.l,.int .i64 x.t,.bool x.w.q.neg,.sl (ens x.w.q.num),.sl (ens x.w.q.den),.int .i64 x.w.cost,.bool x.w.inf,.int .u64 x.w.set.toNat,.sl (ens x.w.poly),.sl (ens x.w.parts)]:=rfl
@[go_sem] theorem yi9(x:GTArc):enc x=.agg [.int .i64 x.f,.int .i64 x.i,.int .i64 x.o,.int .i64 x.t,.bool x.w.q.neg,.sl (ens x.w.q.num),.sl (ens x.w.q.den),.int .i64 x.w.cost,.bool x.w.inf,.int .u64 x.w.set.toNat,.sl (ens x.w.poly),.sl (ens x.w.parts)]:=rfl
@[go_sem] theorem yhx:Enc.sz GArc=11:=rfl
@[go_sem] theorem ye1:Enc.sz GTArc=12:=rfl
structure GAuto where
 ring:GRing
 sy:Int
 st:Int
 ini:List GW
 fin:List GW
 arcs:List GArc
structure GTrans where
 ring:GRing
 i:Int
 o:Int
 st:Int
 ini:List GW
 fin:List GW
 arcs:List GTArc
instance:Enc GAuto:=⟨fun x=>.agg [.int .i64 x.ring.kind,.sl (ens x.ring.parts),.int .i64 x.sy,.int .i64 x.st,.sl (ens x.ini),.sl (ens x.fin),.sl (ens x.arcs)],7,by decide,fun _=>rfl⟩
instance:Enc GTrans:=⟨fun x=>.agg [.int .i64 x.ring.kind,.sl (ens x.ring.parts),.int .i64 x.i,.int .i64 x.o,.int .i64 x.st,.sl (ens x.ini),.sl (ens x.fin),.sl (ens x.arcs)],8,by decide,fun _=>rfl⟩
@[go_sem] theorem yjf(x:GAuto):enc x=.agg [.int .i64 x.ring.kind,.sl (ens x.ring.parts),.int .i64 x.sy,.int .i64 x.st,.sl (ens x.ini),.sl (ens x.fin),.sl (ens x.arcs)]:=rfl
@[go_sem] theorem yhy(x:GTrans):enc x=.agg [.int .i64 x.ring.kind,.sl (ens x.ring.parts),.int .i64 x.i,.int .i64 x.o,.int .i64 x.st,.sl (ens x.ini),.sl (ens x.fin),.sl (ens x.arcs)]:=rfl
@[go_sem] theorem ye7:Enc.sz GAuto=7:=rfl
@[go_sem] theorem yeb:Enc.sz GTrans=8:=rfl
def GArc.key(x:GArc):List Int:=[x.f,x.l,x.t]
def GTArc.key(x:GTArc):List Int:=[x.f,x.i,x.o,x.t]
end Go.Ab
