/-
Proofs for the law CountIsFinite, part 23. Conditions: none.
-/
import Derived.Test.YtdkocfjbmbenfaaGreatDoorDP22
set_option maxRecDepth 100000
set_option maxHeartbeats 4000000
set_option linter.all false
namespace Go.Ab
def val:List UInt32->Nat
 | []=>0
 | x::l=>x.toNat+4294967296*val l
def lb (n:Nat):List UInt32:=if h:n=0 then [] else UInt32.ofNat n::lb (n / 4294967296)
termination_by n
decreasing_by omega
theorem za1 (x:UInt32):x.toNat<4294967296:=x.toNat_lt
theorem zau (n:Nat):(UInt32.ofNat n).toNat=n % 4294967296:=by simp [UInt32.toNat_ofNat']
theorem zg0 {x y:UInt32} (h:x.toNat=y.toNat):x=y:=UInt32.toNat_inj.1 h
@[simp] theorem zv0:val []=0:=rfl
@[simp] theorem zbg (x:UInt32) (l:List UInt32):val (x::l)=x.toNat+4294967296*val l:=rfl
@[simp] theorem z40:lb 0=[]:=by rw [lb]; simp
theorem zi5 {n:Nat} (h:n≠0):lb n=UInt32.ofNat n::lb (n / 4294967296):=by rw [lb]; simp [h]
@[simp] theorem zl6 (n:Nat):val (lb n)=n:=by
 induction n using Nat.strongRecOn with
 | ind n ih =>
  by_cases h:n=0
  ·subst h; simp
  ·rw [zi5 h,zbg,zau,ih _ (by omega)]; omega
theorem zl7 (l r:List UInt32):val (l++r)=val l+4294967296^l.length*val r:=by
 induction l with
 | nil=>simp
 | cons x l ih=>rw [List.cons_append,zbg,ih,zbg,List.length_cons,Nat.pow_succ]; rw [Nat.mul_add,Nat.mul_comm _ 4294967296,Nat.mul_assoc]; omega
theorem zb1 (l:List UInt32):val l<4294967296^l.length:=by
 induction l with
 | nil=>simp
 | cons x l ih=>rw [zbg,List.length_cons,Nat.pow_succ]; have:=za1 x; omega
theorem zdt (n:Nat):val (List.replicate n 0)=0:=by
 induction n with
 | zero=>rfl
 | succ n ih=>rw [List.replicate_succ,zbg,ih]; rfl
theorem zby (l:List UInt32) (i:Nat):val (l.take (i+1))=val (l.take i)+4294967296^i*(l.getD i 0).toNat:=by
 induction l generalizing i with
 | nil=>simp
 | cons x l ih =>
  cases i with
  | zero=>simp
  | succ i=>simp only [List.take_succ_cons,zbg,ih,List.getD_cons_succ,Nat.pow_succ]; rw [Nat.mul_add,Nat.mul_comm (4294967296^i) 4294967296,Nat.mul_assoc]; omega
theorem zc6 (l:List UInt32) {i:Nat} (h:l.length<=i):val (l.take i)=val l:=by rw [List.take_of_length_le h]
theorem zds (l:List UInt32) (x:UInt32):val (l++[x])=val l+4294967296^l.length*x.toNat:=by rw [zl7]; simp
theorem zna (l:List UInt32) (i:Nat) (x:UInt32) (h:i<l.length):val (l.set i x)+4294967296^i*(l.getD i 0).toNat=val l+4294967296^i*x.toNat:=by
 induction l generalizing i with
 | nil=>simp at h
 | cons y l ih =>
  cases i with
  | zero=>simp; omega
  | succ i =>
   have:=ih i (by simpa using h)
   simp only [List.set_cons_succ,zbg,List.getD_cons_succ,Nat.pow_succ]
   rw [Nat.mul_comm (4294967296^i) 4294967296,Nat.mul_assoc,Nat.mul_assoc]
   omega
theorem zsd (l:List UInt32) (i:Nat):val l=val (l.take i)+4294967296^(min i l.length)*val (l.drop i):=by
 conv=>lhs; rw [<- List.take_append_drop i l]
 rw [zl7,List.length_take]
theorem znb (l:List UInt32) (i:Nat):val l / 4294967296^i=val (l.drop i):=by
 rcases Nat.lt_or_ge l.length i with h|h
 ·rw [List.drop_eq_nil_of_le (by omega)]
  refine Nat.div_eq_of_lt (Nat.lt_of_lt_of_le (zb1 l) (Nat.pow_le_pow_right (by omega) (by omega)))
 ·have:=zsd l i
  rw [Nat.min_eq_left h] at this
  rw [this,Nat.add_mul_div_left _ _ (Nat.pow_pos (by omega))]
  have h2:=zb1 (l.take i)
  rw [List.length_take,Nat.min_eq_left h] at h2
  rw [Nat.div_eq_of_lt h2]; omega
theorem zfa (l:List UInt32) (i:Nat):(l.getD i 0).toNat=val l / 4294967296^i % 4294967296:=by
 rw [znb]
 rcases Nat.lt_or_ge i l.length with h|h
 ·rw [List.drop_eq_getElem_cons h,zbg]
  simp [h]
 ·rw [List.drop_eq_nil_of_le h]; simp [List.getElem?_eq_none h]
def zbe (l:List UInt32):Prop:=l.getLast?≠some 0
theorem zb8:∀ {l:List UInt32},zbe l->lb (val l)=l
 | [],_=>by simp
 | x::l,h=>by
  have hl:zbe l:=by
   cases l with
   | nil=>simp [zbe]
   | cons y r=>simpa [zbe] using h
  have ih:=zb8 hl
  have hne:val (x::l)≠0:=by
   intro h0
   simp only [zbg] at h0
   have hx:x=0:=zg0 (by simp; omega)
   have hv:val l=0:=by omega
   rw [hv] at ih
   simp at ih
   subst hx; subst ih
   simp [zbe] at h
  rw [zi5 hne]
  have h1:UInt32.ofNat (val (x::l))=x:=zg0 (by rw [zau,zbg]; have:=za1 x; omega)
  have h2:val (x::l) / 4294967296=val l:=by rw [zbg]; have:=za1 x; omega
  rw [h1,h2,ih]
theorem zbj (n:Nat):zbe (lb n):=by
 induction n using Nat.strongRecOn with
 | ind n ih =>
  by_cases h:n=0
  ·subst h; simp [zbe]
  ·rw [zi5 h]
   have:=ih (n / 4294967296) (by omega)
   by_cases h2:n / 4294967296=0
   ·rw [h2]
    simp only [z40,zbe,List.getLast?_singleton,ne_eq,Option.some.injEq]
    intro h3
    have:=congrArg UInt32.toNat h3
    rw [zau] at this
    simp at this; omega
   ·rw [zi5 h2] at this ⊢
    simpa [zbe] using this
@[simp] theorem z6c (n:Nat):lb n=[] ↔ n=0:=⟨fun h=>by have:=congrArg val h; simpa using this,fun h=>by subst h; simp⟩
theorem zat {n k:Nat} (h:n<4294967296^k):(lb n).length<=k:=by
 induction k generalizing n with
 | zero=>simp at h; subst h; simp
 | succ k ih =>
  by_cases h0:n=0
  ·subst h0; simp
  ·rw [zi5 h0,List.length_cons]
   have:=@ih (n / 4294967296) (by rw [Nat.pow_succ] at h; omega)
   omega
theorem zk1:lb 1=[1]:=by rw [zi5 (by omega)]; simp
theorem zin {n:Nat} (h:n≠0):0<(lb n).length:=by rw [zi5 h]; simp
theorem zk2 {n:Nat} (h:n≠0):4294967296^((lb n).length - 1)<=n:=by
 induction n using Nat.strongRecOn with
 | ind n ih =>
  rw [zi5 h,List.length_cons,Nat.add_sub_cancel]
  by_cases h2:n / 4294967296=0
  ·rw [h2]; simp; omega
  ·have:=ih _ (by omega) h2
   have hp:=zin h2
   have e:(lb (n / 4294967296)).length=(lb (n / 4294967296)).length - 1+1:=by omega
   rw [e,Nat.pow_succ]
   omega
end Go.Ab
namespace Go.Ab
def cmpN (m n:Nat):Int:=if m<n then -1 else if m=n then 0 else 1
theorem zfl (l:List UInt32) (i:Nat):val l / 4294967296^i=4294967296*(val l / 4294967296^(i+1))+(l.getD i 0).toNat:=by
 rw [zfa,Nat.pow_succ,<- Nat.div_div_eq_div_mul]; omega
theorem zfb (l:List UInt32) {i:Nat} (h:l.length<=i):val l / 4294967296^i=0:=by
 rw [znb,List.drop_eq_nil_of_le h]; rfl
theorem zh3 {m n k:Nat} (h:m / k<n / k):m<n:=by
 apply Nat.lt_of_not_le
 intro h2
 have:=Nat.div_le_div_right (c:=k) h2
 omega
end Go.Ab
namespace Go.Ab
theorem zng {l:List UInt32} {i:Nat} {x:UInt32} (h:i<l.length):(l.set i x).take (i+1)=l.take i++[x]:=by
 rw [List.take_succ_eq_append_getElem (by simpa using h)]
 simp [List.take_set_of_le]
theorem zo4 {l:List UInt32} {i:Nat} {x:UInt32} (h:i<l.length):val ((l.set i x).take (i+1))=val (l.take i)+4294967296^i*x.toNat:=by
 rw [zng h,zds,List.length_take,Nat.min_eq_left (by omega)]
theorem zgx {l:List UInt32} {n:Nat} (h:val l<4294967296^n):val (l.take n)=val l:=by
 rcases Nat.lt_or_ge n l.length with hn|hn
 ·have h1:=zsd l n
  rw [Nat.min_eq_left (by omega)] at h1
  have:val (l.drop n)=0:=by
   apply Nat.eq_zero_of_not_pos
   intro h2
   have:=Nat.le_mul_of_pos_right (4294967296^n) h2
   omega
  rw [this] at h1; omega
 ·rw [zc6 _ hn]
end Go.Ab
namespace Go.Ab
theorem zl9 {v v' p q B sum o x y d r A T:Nat} (hv:v'+p*q*o=v+p*q*r) (hk:v+p*q*sum=A+p*x*T) (e4:B*d+r=sum+(o+x*y)) :
  v'+p*(q*B)*d=A+p*x*(T+q*y):=by
 have e5:p*q*(B*d+r)=p*q*(sum+(o+x*y)):=by rw [e4]
 simp only [Nat.mul_add,Nat.add_mul,Nat.mul_assoc,Nat.mul_comm,Nat.mul_left_comm] at *
 omega
theorem zcl (k:Nat):2^k=4294967296^(k / 32)*2^(k % 32):=by
 have:(4294967296:Nat)=2^32:=rfl
 rw [this,<- Nat.pow_mul,<- Nat.pow_add]; congr 1; omega
theorem zf2 {s:Nat} (h:s<32):2^s<=2147483648:=Nat.pow_le_pow_right (n:=2) (by omega) (show s<=31 by omega)
end Go.Ab
namespace Go.Ab
theorem zq4 (x y r s:Nat) (hs:s<32):(x+4294967296*(y+4294967296*r)) / 2^s % 4294967296=(y*4294967296+x) / 2^s % 4294967296:=by
 have h:2^s*2^(32 - s)=4294967296:=by rw [<- Nat.pow_add,show s+(32 - s)=32 by omega]
 have e:x+4294967296*(y+4294967296*r)=(y*4294967296+x)+2^s*(4294967296*(2^(32 - s)*r)):=by
  rw [<- Nat.mul_assoc (2^s),Nat.mul_comm (2^s) 4294967296,Nat.mul_assoc,<- Nat.mul_assoc (2^s),h,Nat.mul_add]; omega
 rw [e,Nat.add_mul_div_left _ _ (Nat.pow_pos (by omega)),Nat.add_mul_mod_self_left]
theorem zgy (l:List UInt32) (i:Nat):val (l.drop i)=(l.getD i 0).toNat+4294967296*val (l.drop (i+1)):=by
 rcases Nat.lt_or_ge i l.length with h|h
 ·rw [List.drop_eq_getElem_cons h,zbg]; simp [h]
 ·rw [List.drop_eq_nil_of_le h,List.drop_eq_nil_of_le (by omega)]; simp [List.getElem?_eq_none h]
end Go.Ab
namespace Go.Ab
theorem zhc (n:Nat):n<4294967296^(lb n).length:=by have:=zb1 (lb n); simpa using this
theorem z1r {U V i L:Nat} (hL:4294967296^(L - 1)<=V) (hL0:0<L) (hU:U<V*4294967296^(i+1)) :
  U / (V*4294967296^i)<=min (U / 4294967296^(i+L - 1) / (V / 4294967296^(L - 1))) 4294967295:=by
 have hp:∀ k,0<4294967296^k:=fun k=>Nat.pow_pos (by omega)
 have hV:0<V:=Nat.lt_of_lt_of_le (hp _) hL
 refine Nat.le_min.2 ⟨?_,?_⟩
 ·have ht:0<V / 4294967296^(L - 1):=Nat.div_pos hL (hp _)
  rw [Nat.le_div_iff_mul_le ht,Nat.le_div_iff_mul_le (hp _)]
  have h1:U / (V*4294967296^i)*(V*4294967296^i)<=U:=Nat.div_mul_le_self _ _
  have h2:V / 4294967296^(L - 1)*4294967296^(L - 1)<=V:=Nat.div_mul_le_self _ _
  have e:i+L - 1=(L - 1)+i:=by omega
  rw [e,Nat.pow_add]
  generalize U / (V*4294967296^i)=d at *
  have h3:d*(V / 4294967296^(L - 1)*4294967296^(L - 1))<=d*V:=Nat.mul_le_mul_left _ h2
  have h4:=Nat.mul_le_mul_right (4294967296^i) h3
  simp only [Nat.mul_assoc] at *
  omega
 ·have:U / (V*4294967296^i)<4294967296:=by
   rw [Nat.div_lt_iff_lt_mul (Nat.mul_pos hV (hp _))]
   rw [Nat.pow_succ] at hU
   rw [Nat.mul_comm 4294967296,Nat.mul_assoc]; exact hU
  omega
theorem zud {U n:Nat} (h:U<4294967296^(n+2)):((lb U).getD (n+1) 0).toNat*4294967296+((lb U).getD n 0).toNat=U / 4294967296^n:=by
 have h1:=zfa (lb U) (n+1)
 have h2:=zfa (lb U) n
 have e:U / 4294967296^(n+1)=U / 4294967296^n / 4294967296:=by rw [Nat.pow_succ,Nat.div_div_eq_div_mul]
 have e2:U / 4294967296^n<4294967296*4294967296:=by
  rw [Nat.div_lt_iff_lt_mul (Nat.pow_pos (by omega))]
  have:4294967296^(n+2)=4294967296*4294967296*4294967296^n:=by rw [Nat.pow_add,Nat.mul_comm]
  omega
 rw [zl6] at h1 h2
 rw [h1,h2,e]
 generalize U / 4294967296^n=x at *
 omega
theorem zv4 {V:Nat} (hV:V≠0):((lb V).getD ((lb V).length - 1) 0).toNat=V / 4294967296^((lb V).length - 1)/\0<V / 4294967296^((lb V).length - 1):=by
 have h1:=zfa (lb V) ((lb V).length - 1)
 rw [zl6] at h1
 have h2:=zhc V
 have h3:=zin hV
 constructor
 ·rw [h1,Nat.mod_eq_of_lt]
  rw [Nat.div_lt_iff_lt_mul (Nat.pow_pos (by omega)),Nat.mul_comm,<- Nat.pow_succ,Nat.succ_eq_add_one,show (lb V).length - 1+1=(lb V).length by omega]; exact h2
 ·exact Nat.div_pos (zk2 hV) (Nat.pow_pos (by omega))
theorem z23 (i:Nat):2^(32*i)=4294967296^i:=by rw [Nat.pow_mul]
end Go.Ab
namespace Go.Ab
theorem zgt {m n:Nat}:cmpN m n<0 ↔ m<n:=by unfold cmpN; split<;>(try split)<;>omega
theorem zc2 {m n:Nat}:0<=cmpN m n ↔ n<=m:=by unfold cmpN; split<;>(try split)<;>omega
theorem zgh {m n:Nat}:cmpN m n=0 ↔ m=n:=by unfold cmpN; split<;>(try split)<;>omega
end Go.Ab
namespace Go.Ab
theorem zix (a:List UInt32) (i:Int) (h:0<=i):Sp P F.aj [.sl (ens a),.int .i64 i] (.pure (.int .u64 (a.getD i.toNat 0).toNat)):=by
 refine Sp.vz c.aj fun _=>?_
 simp [g.aj,go_sem]
 refine ⟨fun h1=>zae (by omega) ⟨h,?_⟩,fun h1=>?_⟩
 ·have:i.toNat<a.length:=by omega
  simp [*]
 ·have:a.length<=i.toNat:=by omega
  simp [this]
theorem zcs (a:List UInt32):Sp P F.af [.sl (ens a)] (.pure (.sl (ens (lb (val a))))):=by
 refine Sp.vz c.af fun hs=>?_
 have hl:=zko hs.1
 simp [g.af,go_sem]
 refine zai (S:=fun l:List UInt32=>mkSt [(0,.p (.sl (ens l)))] []) (I:=fun l=>val l=val a/\l.length<=9223372036854775807) (m:=fun l=>l.length) a (Weak.of (keep:=[0]) (ids:=[]) rfl) ⟨rfl,hl⟩ ?_
 rintro l ⟨h1,h2⟩ R hn hr hx
 have e:IntKind.i64.wrap (↑l.length - 1) = ↑l.length - 1:=i64w (by omega) (by omega)
 have e2:((l.length:Int) - 1).toNat=l.length - 1:=by omega
 simp [g.oh,mkSt,e,e2,go_sem]
 have out:zbe l->R (Exit.exit 0) ⟨[(0,.p (.sl (ens l)))],[(DEAD,[none])]⟩:=fun hc=>by
  refine hx _ _ ?_
  simp [go_sem]
  rw [<- h1,zb8 hc]
 refine ⟨fun h=>zae (by omega) ⟨by omega,fun h0=>⟨by omega,hn (l.take (l.length - 1)) _ (Weak.of (keep:=[0]) (ids:=[]) rfl) ?_ ?_⟩,fun h0=>out ?_⟩,fun h=>out ?_⟩
 ·refine ⟨?_,by simp; omega⟩
  have h3:l=l.take (l.length - 1)++[0]:=by
   conv=>lhs; rw [<- List.take_append_getLast l (by intro h4; simp [h4] at h)]
   rw [List.getLast_eq_getElem,zg0 (x:=l[l.length - 1]) (y:=0) (by simpa using h0)]
  rw [h3,zds] at h1
  simpa using h1
 ·simp; omega
 ·intro h4
  rw [List.getLast?_eq_getElem?,List.getElem?_eq_getElem (by omega)] at h4
  simp at h4; rw [h4] at h0; exact h0 rfl
 ·subst h; simp [zbe]
theorem zlk (a b:List UInt32):Sp P F.bh [.sl (ens a),.sl (ens b)] (.pure (.int .i64 (cmpN (val a) (val b)))):=by
 refine Sp.vz c.bh fun hs=>?_
 have hl:=zko hs.1
 have hl2:=zko hs.2.1
 simp [g.bh,go_sem]
 have e:IntKind.i64.wrap ((if a.length<b.length then (b.length:Int) else a.length) - 1)=((max a.length b.length:Nat):Int) - 1:=by
  rw [i64w (by split<;>omega) (by split<;>omega)]; split<;>omega
 simp only [e]
 refine zai (S:=fun k:Nat=>mkSt [(0,.p (.sl (ens a))),(1,.p (.sl (ens b))),(5,.p (.int .i64 ((k:Int) - 1)))] []) (I:=fun k=>k<=max a.length b.length/\val a / 4294967296^k=val b / 4294967296^k) (m:=fun k=>k) (max a.length b.length) (Weak.of (keep:=[0,1,5]) (ids:=[]) rfl) ⟨Nat.le_refl _,by rw [zfb _ (by omega),zfb _ (by omega)]⟩ ?_
 rintro k ⟨h1,h2⟩ R hn hr hx
 simp [g.nr,mkSt,go_sem]
 refine ⟨fun hk=>?_,fun hk=>?_⟩
 ·refine zab (zix _ _ (by omega)) rfl ?_
  simp [go_sem]
  refine zab (zix _ _ (by omega)) rfl ?_
  simp [go_sem]
  have e2:((k:Int) - 1).toNat=k - 1:=by omega
  have e3:IntKind.i64.wrap ((k:Int) - 1 - 1)=((k - 1:Nat):Int) - 1:=by rw [i64w (by omega) (by omega)]; omega
  have d1:=zfl a (k - 1)
  have d2:=zfl b (k - 1)
  rw [show k - 1+1=k by omega] at d1 d2
  have u1:=za1 (a.getD (k - 1) 0)
  have u2:=za1 (b.getD (k - 1) 0)
  simp only [List.getD_eq_getElem?_getD] at d1 d2 u1 u2
  simp only [e2,e3]
  generalize (a[k - 1]?.getD 0).toNat=x at d1 u1 ⊢
  generalize (b[k - 1]?.getD 0).toNat=y at d2 u2 ⊢
  refine ⟨fun heq=>hn (k - 1) _ (Weak.of (keep:=[0,1,5]) (ids:=[]) rfl) ⟨by omega,by omega⟩ (by omega),fun hne=>hr _ ?_⟩
  simp [go_sem]
  have hlt:val a / 4294967296^(k - 1)<val b / 4294967296^(k - 1)\/val b / 4294967296^(k - 1)<val a / 4294967296^(k - 1):=by omega
  simp only [wrap_i64]
  rcases hlt with h|h
  ·have:=zh3 h
   rw [cmpN,if_pos this]; omega
  ·have:=zh3 h
   rw [cmpN,if_neg (by omega),if_neg (by omega)]; omega
 ·refine hx _ _ ?_
  simp [go_sem]
  have:k=0:=by omega
  subst this
  simp at h2
  simp [cmpN,h2]
end Go.Ab
namespace Go.Ab
theorem z37 (a b:List UInt32) (hl:a.length<=1073741824) (hl2:b.length<=1073741824):Sp P F.ip [.sl (ens a),.sl (ens b)] (.pure (.sl (ens (lb (val a+val b))))):=by
 refine Sp.vz c.ip fun _=>?_
 simp [g.ip,go_sem]
 refine zai (S:=fun x:Nat × Nat × List UInt32=>mkSt [(0,.p (.sl (ens a))),(1,.p (.sl (ens b))),(5,.own 1 0 0 x.2.2.length),(6,.p (.int .u64 x.2.1)),(7,.p (.int .i64 x.1))] [(1,⟨1,avs x.2.2⟩)])
  (I:=fun x=>x.2.2.length=x.1/\(x.1<=max a.length b.length+1/\(x.1=max a.length b.length+1->x.2.1=0))/\x.2.1<=1/\val x.2.2+4294967296^x.1*x.2.1=val (a.take x.1)+val (b.take x.1)) (m:=fun x=>max a.length b.length+1 - x.1) (0,0,[]) (Weak.nl 5 1 1 rfl (Weak.of (keep:=[0,1,5,6,7]) (ids:=[((1,0),1)]) rfl)) ⟨rfl,⟨by simp,by simp⟩,by simp,by simp⟩ ?_
 rintro ⟨i,sum,out⟩ ⟨h1,h2,h3,h4⟩ R hn hr hx
 simp at h1 h2 h3 h4
 simp [g.ol,go_sem]
 refine ⟨fun h=>?_,fun h=>⟨fun h'=>?_,fun h'=>?_⟩⟩
 rotate_left 2
 ·refine hx _ _ ?_
  simp [go_sem]
  refine zab (zcs out) (by simp [go_sem]) ?_
  simp [go_sem]
  rw [h'] at h4
  rw [List.take_of_length_le (by omega),List.take_of_length_le (by omega)] at h4
  simp at h4; rw [h4]
 all_goals
  refine zab (zix _ _ (by omega)) rfl ?_
  simp [go_sem]
  refine zab (zix _ _ (by omega)) rfl ?_
  simp [go_sem]
  have e1:=i64s i (by omega)
  have t1:=zby a i
  have t2:=zby b i
  have u1:=za1 (a.getD i 0)
  have u2:=za1 (b.getD i 0)
  simp only [List.getD_eq_getElem?_getD] at t1 t2 u1 u2
  generalize (a[i]?.getD 0).toNat=x at t1 u1 ⊢
  generalize (b[i]?.getD 0).toNat=y at t2 u2 ⊢
  have hxy:max a.length b.length<=i->x=0/\y=0:=fun hm=>by
   rw [List.take_of_length_le (by omega),List.take_of_length_le (by omega)] at t1 t2
   have hp:0<4294967296^i:=Nat.pow_pos (by omega)
   constructor
   ·apply Nat.eq_zero_of_not_pos; intro h0; have:=Nat.mul_pos hp h0; omega
   ·apply Nat.eq_zero_of_not_pos; intro h0; have:=Nat.mul_pos hp h0; omega
  have e2:((sum:Int)+(↑x + ↑y)) % 18446744073709551616 / 4294967296=(((sum+x+y) / 4294967296:Nat):Int):=by omega
  obtain ⟨z,hz⟩:∃ z:UInt32,z.toNat=(sum+x+y) % 4294967296:=⟨_,zau _⟩
  have e3:((sum:Int)+(↑x + ↑y)) % 4294967296=(z.toNat:Int):=by rw [hz]; omega
  rw [e1,e2,e3]
  refine ⟨by split at h<;>omega,hn (i+1,(sum+x+y) / 4294967296,out++[z]) _ (Weak.to [0,1,5,6,7] [((34,0),1)] (by simp [go_sem])) ⟨by simp [h1],?_,?_,?_⟩ ?_⟩
  all_goals simp
  ·split at h<;>omega
  ·omega
  ·rw [zds,hz,h1,t1,t2,Nat.pow_succ]
   have e4:sum+x+y=4294967296*((sum+x+y) / 4294967296)+(sum+x+y) % 4294967296:=by omega
   generalize 4294967296^i=p at h4 ⊢
   generalize (sum+x+y) / 4294967296=q at e4 ⊢
   generalize (sum+x+y) % 4294967296=r at e4 ⊢
   have e5:p*(sum+x+y)=p*4294967296*q+p*r:=by rw [e4,Nat.mul_add,Nat.mul_assoc]
   rw [Nat.mul_add,Nat.mul_add] at e5
   omega
  ·split at h<;>omega
end Go.Ab
namespace Go.Ab
theorem zjs (a b:List UInt32) (hl:a.length<=1073741824) (hab:val b<=val a):Sp P F.ct [.sl (ens a),.sl (ens b)] (.pure (.sl (ens (lb (val a - val b))))):=by
 refine Sp.vz c.ct fun _=>?_
 simp [g.ct,go_sem]
 refine ⟨by omega,zai (S:=fun x:Nat × Nat × List UInt32=>mkSt [(0,.p (.sl (ens a))),(1,.p (.sl (ens b))),(5,.own 1 0 0 a.length),(6,.p (.int .u64 x.2.1)),(13,.p (.int .i64 a.length)),(14,.p (.int .i64 x.1))] [(1,⟨1,avs x.2.2⟩)])
  (I:=fun x=>x.2.2.length=a.length/\x.1<=a.length/\x.2.1<=1/\val (x.2.2.take x.1)+val (b.take x.1)=val (a.take x.1)+4294967296^x.1*x.2.1) (m:=fun x=>a.length - x.1) (0,0,List.replicate a.length 0)
  (Weak.to [0,1,5,6,13,14] [((11,0),1)] (by simp [go_sem])) ⟨by simp,by simp,by simp,by simp⟩ ?_⟩
 rintro ⟨i,less,out⟩ ⟨h1,h2,h3,h4⟩ R hn hr hx
 simp at h1 h2 h3 h4
 simp [g.om,go_sem]
 refine ⟨fun h=>?_,fun h=>?_⟩
 ·refine zab (zix _ _ (by omega)) rfl ?_
  simp [go_sem]
  refine zab (zix _ _ (by omega)) rfl ?_
  simp [go_sem]
  have e1:=i64s i (by omega)
  have t1:=zby a i
  have t2:=zby b i
  have u1:=za1 (a.getD i 0)
  have u2:=za1 (b.getD i 0)
  simp only [List.getD_eq_getElem?_getD] at t1 t2 u1 u2
  generalize (a[i]?.getD 0).toNat=x at t1 u1 ⊢
  generalize (b[i]?.getD 0).toNat=y at t2 u2 ⊢
  obtain ⟨z,hz⟩:∃ z:UInt32,z.toNat=(x+4294967296 - y - less) % 4294967296:=⟨_,zau _⟩
  obtain ⟨l',hl'⟩:∃ l':Nat,l'=if x<y+less then 1 else 0:=⟨_,rfl⟩
  have e2:((x:Int) - ↑y - ↑less) % 18446744073709551616 / 9223372036854775808=(l':Int):=by subst hl'; split<;>omega
  have e3:((x:Int) - ↑y - ↑less) % 4294967296=(z.toNat:Int):=by rw [hz]; omega
  refine ⟨by omega,zae (by omega) ?_⟩
  rw [e1,e2,e3]
  refine hn (i+1,l',out.set i z) _ (Weak.to [0,1,5,6,13,14] [((1,0),1)] (by simp [go_sem])) ⟨by simp [h1],by simp; omega,by simp; subst hl'; split<;>omega,?_⟩ ?_
  ·simp
   rw [zo4 (by omega),hz,t1,t2,Nat.pow_succ]
   have e4:x+4294967296*l'=y+less+(x+4294967296 - y - less) % 4294967296:=by subst hl'; split<;>omega
   generalize 4294967296^i=p at *
   generalize (x+4294967296 - y - less) % 4294967296=r at *
   grind
  ·simp; omega
 ·refine hx _ _ ?_
  have hi:i=a.length:=by omega
  subst hi
  rw [<- h1,List.take_length,h1,List.take_length,zgx (Nat.lt_of_le_of_lt hab (zb1 a))] at h4
  have u1:=zb1 out
  rw [h1] at u1
  have hless:less=0:=by
   rcases Nat.lt_or_ge 0 less with h5|h5
   ·have:less=1:=by omega
    subst this; omega
   ·omega
  subst hless
  simp [go_sem]
  refine zab (zcs out) (by simp [go_sem,<- h1]) ?_
  simp [go_sem]
  rw [show val out=val a - val b by omega]
end Go.Ab
namespace Go.Ab
theorem zjn (a b:List UInt32) (hl:a.length<=536870912) (hl2:b.length<=536870912):Sp P F.eu [.sl (ens a),.sl (ens b)] (.pure (.sl (ens (lb (val a*val b))))):=by
 refine Sp.vz c.eu fun _=>?_
 have e0:IntKind.i64.wrap ((a.length:Int)+b.length)=((a.length+b.length:Nat):Int):=i64w (by omega) (by omega)
 simp [g.eu,e0,go_sem]
 have e0':((a.length:Int)+b.length).toNat=a.length+b.length:=by omega
 simp only [e0']
 refine ⟨by omega,zai (S:=fun x:Nat × List UInt32=>mkSt [(0,.p (.sl (ens a))),(1,.p (.sl (ens b))),(5,.own 1 0 0 (a.length+b.length)),(16,.p (.int .i64 a.length)),(17,.p (.int .i64 x.1))] [(1,⟨1,avs x.2⟩)])
  (I:=fun x=>x.2.length=a.length+b.length/\x.1<=a.length/\val x.2=val (a.take x.1)*val b) (m:=fun x=>a.length - x.1) (0,List.replicate (a.length+b.length) 0)
  (Weak.to [0,1,5,16,17] [((14,0),1)] (by simp [go_sem])) ⟨by simp,by simp,by simp [zdt]⟩ ?_⟩
 rintro ⟨i,out⟩ ⟨h1,h2,h3⟩ R hn hr hx
 simp at h1 h2 h3
 simp [g.oj,go_sem]
 refine ⟨fun h=>?_,fun h=>?_⟩
 ·refine zai (S:=fun x:Nat × Nat × List UInt32=>mkSt [(0,.p (.sl (ens a))),(1,.p (.sl (ens b))),(5,.own 1 0 0 (a.length+b.length)),(6,.p (.int .i64 i)),(7,.p (.int .u64 x.2.1)),(8,.p (.int .i64 x.1)),(16,.p (.int .i64 a.length)),(17,.p (.int .i64 i))] [(1,⟨1,avs x.2.2⟩)])
   (I:=fun x=>x.2.2.length=a.length+b.length/\x.1<=b.length+1/\x.2.1<4294967296/\val x.2.2+4294967296^i*4294967296^x.1*x.2.1=val (a.take i)*val b+4294967296^i*(a.getD i 0).toNat*val (b.take x.1)) (m:=fun x=>b.length+1 - x.1) (0,0,out)
   (Weak.to [0,1,5,6,7,8,16,17] [((1,0),1)] (by simp [go_sem])) ⟨by simp [h1],by simp,by simp,by simp [h3]⟩ ?_
  rintro ⟨j,sum,o2⟩ ⟨k1,k2,k3,k4⟩ R2 hn2 hr2 hx2
  simp at k1 k2 k3 k4
  simp [g.oi,go_sem]
  have hlim:0<sum->j<b.length+1:=fun hs=>by
   apply Nat.lt_of_not_le
   intro hj
   have hj:j=b.length+1:=by omega
   subst hj
   rw [zc6 b (by omega)] at k4
   have q1:val (a.take i)*val b+4294967296^i*(a.getD i 0).toNat*val b=val (a.take (i+1))*val b:=by rw [zby]; grind
   simp only [List.getD_eq_getElem?_getD] at q1
   rw [q1] at k4
   have q2:val (a.take (i+1))<4294967296^(i+1):=Nat.lt_of_lt_of_le (zb1 _) (Nat.pow_le_pow_right (by omega) (by simp; omega))
   have q3:=Nat.mul_lt_mul'' q2 (zb1 b)
   have q4:4294967296^(i+1)*4294967296^b.length=4294967296^i*4294967296^(b.length+1):=by rw [<- Nat.pow_add,<- Nat.pow_add]; congr 1; omega
   have q5:=Nat.le_mul_of_pos_right (4294967296^i*4294967296^(b.length+1)) hs
   omega
  refine ⟨fun g=>?_,fun g=>⟨fun g'=>?_,fun g'=>?_⟩⟩
  rotate_left 2
  ·refine hx2 _ _ ?_
   simp [go_sem]
   have e1:=i64s i (by omega)
   rw [e1]
   refine hn (i+1,o2) _ (Weak.to [0,1,5,16,17] [((1,0),1)] (by simp [go_sem])) ⟨by simp [k1],by simp; omega,?_⟩ (by simp; omega)
   simp
   rw [g',zc6 b (by omega)] at k4
   rw [zby]
   simp only [List.getD_eq_getElem?_getD]
   grind
  all_goals
   have hj:j<=b.length:=by first|omega|(have:=hlim g'; omega)
   have ew:IntKind.i64.wrap ((i:Int)+j)=((i+j:Nat):Int):=i64w (by omega) (by omega)
   have ew':((i:Int)+j).toNat=i+j:=by omega
   simp [ew,ew']
   refine ⟨by omega,zae (by omega) ?_⟩
   refine zah (zix _ _ (by omega)) rfl ?_
   simp [go_sem]
   refine zah (zix _ _ (by omega)) rfl ?_
   simp [go_sem]
   have e1:=i64s j (by omega)
   have t1:=zby b j
   have u0:=za1 (a.getD i 0)
   have u1:=za1 (b.getD j 0)
   have u2:=za1 o2[i+j]
   have vs:∀ z,val (o2.set (i+j) z)+4294967296^(i+j)*o2[i+j].toNat=val o2+4294967296^(i+j)*z.toNat:=fun z=>by
    have:=zna o2 (i+j) z (by omega)
    simpa [List.getElem?_eq_getElem (show i+j<o2.length by omega)] using this
   simp only [List.getD_eq_getElem?_getD] at t1 u0 u1 k4
   rw [ew,e1,Int.toNat_natCast]
   refine ⟨by omega,zae (by omega) ?_⟩
   generalize hx1:(a[i]?.getD 0).toNat=x at u0 k4 ⊢
   generalize (b[j]?.getD 0).toNat=y at t1 u1 ⊢
   generalize o2[i+j].toNat=o at u2 vs ⊢
   have hxy:x*y<=4294967295*4294967295:=Nat.mul_le_mul (by omega) (by omega)
   obtain ⟨z,hz⟩:∃ z:UInt32,z.toNat=(sum+(o+x*y)) % 4294967296:=⟨_,zau _⟩
   have e2:((sum:Int)+(o+x*y)) % 18446744073709551616 / 4294967296=(((sum+(o+x*y)) / 4294967296:Nat):Int):=by
    have:((x:Int)*y)=((x*y:Nat):Int):=by simp
    rw [this]; omega
   have e3:((sum:Int)+(o+x*y)) % 4294967296=(z.toNat:Int):=by
    have:((x:Int)*y)=((x*y:Nat):Int):=by simp
    rw [this,hz]; omega
   rw [e2,e3]
   refine hn2 (j+1,(sum+(o+x*y)) / 4294967296,o2.set (i+j) z) _ (Weak.to [0,1,5,6,7,8,16,17] [((1,0),1)] (by simp [go_sem])) ⟨by simp [k1],by simp; omega,by simp; omega,?_⟩ (by simp; omega)
   simp
   have v:=vs z
   rw [hz,Nat.pow_add] at v
   rw [t1,Nat.pow_succ,hx1]
   have e4:=Nat.div_add_mod (sum+(o+x*y)) 4294967296
   exact zl9 v k4 e4
 ·refine hx _ _ ?_
  simp [go_sem]
  refine zab (zcs out) (by simp [go_sem,<- h1]) ?_
  simp [go_sem]
  have:i=a.length:=by omega
  subst this
  rw [h3,List.take_length]
end Go.Ab
namespace Go.Ab
theorem z0i (a:List UInt32) (d:UInt32) (hl:a.length<=1073741824) (hd:d≠0):Sp P F.iz [.sl (ens a),.int .u32 d.toNat] (.pure (.tup [.sl (ens (lb (val a / d.toNat))),.int .u32 (val a % d.toNat:Nat)])):=by
 refine Sp.vz c.iz fun _=>?_
 have e0:IntKind.i64.wrap ((a.length:Int) - 1)=(a.length:Int) - 1:=i64w (by omega) (by omega)
 simp [g.iz,e0,go_sem]
 have hd0:0<d.toNat:=by
  rcases Nat.eq_zero_or_pos d.toNat with h|h
  ·exact absurd (zg0 (by simpa using h)) hd
  ·exact h
 have hdl:=za1 d
 refine ⟨by omega,zai (S:=fun x:Nat × Nat × List UInt32=>mkSt [(0,.p (.sl (ens a))),(1,.p (.int .u32 d.toNat)),(6,.own 1 0 0 a.length),(7,.p (.int .u64 x.2.1)),(8,.p (.int .i64 ((x.1:Int) - 1)))] [(1,⟨1,avs x.2.2⟩)])
  (I:=fun x=>x.2.2.length=a.length/\x.1<=a.length/\x.2.1<d.toNat/\val (a.drop x.1)=val (x.2.2.drop x.1)*d.toNat+x.2.1) (m:=fun x=>x.1) (a.length,0,List.replicate a.length 0)
  (Weak.to [0,1,6,7,8] [((11,0),1)] (by simp [go_sem])) ⟨by simp,by simp,by simpa using hd0,by simp⟩ ?_⟩
 rintro ⟨k,r,q⟩ ⟨h1,h2,h3,h4⟩ R hn hr hx
 simp at h1 h2 h3 h4
 simp [g.ot,go_sem]
 refine ⟨fun h=>?_,fun h=>?_⟩
 ·have e1:((k:Int) - 1).toNat=k - 1:=by omega
  have e2:IntKind.i64.wrap ((k:Int) - 1 - 1)=((k - 1:Nat):Int) - 1:=by rw [i64w (by omega) (by omega)]; omega
  simp only [e1,e2]
  refine zae (by omega) ⟨by omega,?_⟩
  have hx1:=za1 a[k - 1]
  have d1:a.drop (k - 1)=a[k - 1]::a.drop k:=by rw [List.drop_eq_getElem_cons (by omega)]; congr 1; rw [show k - 1+1=k by omega]
  generalize a[k - 1]=x at hx1 d1 ⊢
  have ho:=zxf (r:=r) (x:=x.toNat) (k:=32) (by omega) (by omega) (by omega)
  simp only [show (2:Int)^32=4294967296 from rfl,show (2:Nat)^32=4294967296 from rfl] at ho
  rw [ho,z0b,z7a]
  refine ⟨by omega,by omega,zae (by omega) ⟨by omega,?_⟩⟩
  obtain ⟨z,hz⟩:∃ z:UInt32,z.toNat=(r*4294967296+x.toNat) / d.toNat % 4294967296:=⟨_,zau _⟩
  have hq:(r*4294967296+x.toNat) / d.toNat<4294967296:=by
   rw [Nat.div_lt_iff_lt_mul hd0]
   have:(r+1)*4294967296<=d.toNat*4294967296:=Nat.mul_le_mul_right _ h3
   rw [Nat.mul_comm 4294967296]
   omega
  rw [Nat.mod_eq_of_lt hq] at hz
  have e3:(((r*4294967296+x.toNat) / d.toNat:Nat):Int) % 4294967296=(z.toNat:Int):=by rw [hz]; omega
  rw [e3]
  refine hn (k - 1,(r*4294967296+x.toNat) % d.toNat,q.set (k - 1) z) _ (Weak.to [0,1,6,7,8] [((1,0),1)] (by simp [go_sem])) ⟨by simp [h1],by simp; omega,by simp; exact Nat.mod_lt _ hd0,?_⟩ (by simp; omega)
  simp
  have d2:(q.set (k - 1) z).drop (k - 1)=z::q.drop k:=by
   rw [List.drop_eq_getElem_cons (by simp; omega)]
   simp
   rw [show k - 1+1=k by omega,List.drop_set_of_lt (by omega)]
  rw [d1,d2,zbg,zbg,h4,hz]
  have e4:=Nat.div_add_mod (r*4294967296+x.toNat) d.toNat
  generalize (r*4294967296+x.toNat) / d.toNat=u at e4 ⊢
  generalize (r*4294967296+x.toNat) % d.toNat=w at e4 ⊢
  grind
 ·refine hx _ _ ?_
  have hk:k=0:=by omega
  subst hk
  simp at h4
  simp [go_sem]
  refine zab (zcs q) (by simp [go_sem,<- h1]) ?_
  have hr':(val a / d.toNat=val q/\val a % d.toNat=r):=by
   rw [h4]
   constructor
   ·rw [Nat.mul_comm,Nat.mul_add_div hd0,Nat.div_eq_of_lt h3]; omega
   ·rw [Nat.mul_comm,Nat.mul_add_mod,Nat.mod_eq_of_lt h3]
  simp [go_sem]
  rw [hr'.1]
  have:=hr'.2
  refine ⟨rfl,?_⟩
  rw [<- this]; omega
theorem zx9 {v p r A P2 x s w u d q:Nat} (h4:v+p*r=A*P2) (e8:4294967296*u+w=x*s+r) (e9:p=d*q) (hk:P2=d*s):v+p*w+p*4294967296*u=(A+q*x)*P2:=by
 have e5:p*(4294967296*u+w)=p*(x*s+r):=by rw [e8]
 subst e9 hk
 simp only [Nat.mul_add,Nat.add_mul,Nat.mul_assoc,Nat.mul_comm,Nat.mul_left_comm] at *
 omega
theorem zn6 (a:List UInt32) (k:Nat) (hl:a.length+k<=1073741824):Sp P F.c9 [.sl (ens a),.int .i64 k] (.pure (.sl (ens (lb (val a*2^k))))):=by
 refine Sp.vz c.c9 fun _=>?_
 have e0:IntKind.i64.wrap ((k:Int) / 32)=((k / 32:Nat):Int):=by rw [i64w (by omega) (by omega)]; omega
 have e1:IntKind.i64.wrap (((k / 32:Nat):Int)+a.length)=((k / 32+a.length:Nat):Int):=by rw [i64w (by omega) (by omega)]; omega
 have e2:IntKind.i64.wrap (((k / 32+a.length:Nat):Int)+1)=((k / 32+a.length+1:Nat):Int):=by rw [i64w (by omega) (by omega)]; omega
 simp [g.c9,go_sem]
 rw [e0,e1,e2]
 refine ⟨⟨by omega,by omega,by omega,by omega⟩,zai (S:=fun x:Nat × Nat × List UInt32=>mkSt [(1,.p (.int .i64 k)),(5,.own 1 0 0 (k / 32+x.1)),(6,.p (.int .u64 x.2.1)),(18,.p (.sl (ens a))),(19,.p (.int .i64 a.length)),(20,.p (.int .i64 x.1))] [(1,⟨1,avs x.2.2⟩)])
  (I:=fun x=>x.2.2.length=k / 32+x.1/\x.1<=a.length/\x.2.1<2^(k % 32)/\val x.2.2+4294967296^(k / 32+x.1)*x.2.1=val (a.take x.1)*2^k) (m:=fun x=>a.length - x.1) (0,0,List.replicate (k / 32) 0)
  (Weak.to [1,5,6,18,19,20] [((17,0),1)] (by simp [go_sem]; omega)) ⟨by simp,by simp,by simp; exact Nat.pow_pos (by omega),by simp [zdt]⟩ ?_⟩
 rintro ⟨i,r,out⟩ ⟨h1,h2,h3,h4⟩ R hn hr hx
 simp at h1 h2 h3 h4
 simp [g.ou,go_sem]
 have es:((k:Int)).tmod 32=((k % 32:Nat):Int):=z0b k 32
 have e4:((k % 32:Nat):Int).toNat.min 64=k % 32:=Nat.min_eq_left (by rw [Int.toNat_natCast]; omega)
 have hs:=zf2 (s:=k % 32) (Nat.mod_lt _ (by omega))
 have hk:=zcl k
 rw [es,e4]
 refine ⟨fun h=>zae h ⟨by omega,⟨by omega,by omega⟩,?_⟩,fun h=>?_⟩
 ·have hx1:=za1 a[i]
  have t1:=zby a i
  simp [h] at t1
  generalize a[i]=x at hx1 t1 ⊢
  have hb:x.toNat*2^(k % 32)<=4294967295*2147483648:=Nat.mul_le_mul (by omega) hs
  have ho:=z4j (r:=x.toNat) (x:=r) (k:=k % 32) (by omega) h3 (by omega)
  rw [ho]
  have e5:=i64s i (by omega)
  obtain ⟨z,hz⟩:∃ z:UInt32,z.toNat=(x.toNat*2^(k % 32)+r) % 4294967296:=⟨_,zau _⟩
  have e6:((x.toNat*2^(k % 32)+r:Nat):Int) / 4294967296=(((x.toNat*2^(k % 32)+r) / 4294967296:Nat):Int):=by omega
  have e7:((x.toNat*2^(k % 32)+r:Nat):Int) % 4294967296=(z.toNat:Int):=by rw [hz]; omega
  have hlt:(x.toNat*2^(k % 32)+r) / 4294967296<2^(k % 32):=by
   rw [Nat.div_lt_iff_lt_mul (by omega)]
   have:(x.toNat+1)*2^(k % 32)<=4294967296*2^(k % 32):=Nat.mul_le_mul_right _ (by omega)
   rw [Nat.add_mul] at this
   omega
  rw [e5,e6,e7]
  refine hn (i+1,(x.toNat*2^(k % 32)+r) / 4294967296,out++[z]) _ (Weak.to [1,5,6,18,19,20] [((35,0),1)] (by simp [go_sem]; omega)) ⟨by simp [h1]; omega,by simp; omega,by simpa using hlt,?_⟩ (by simp; omega)
  simp
  have e8:=Nat.div_add_mod (x.toNat*2^(k % 32)+r) 4294967296
  rw [zds,h1,hz,t1,show k / 32+(i+1)=k / 32+i+1 by omega,Nat.pow_succ]
  have e9:4294967296^(k / 32+i)=4294967296^(k / 32)*4294967296^i:=Nat.pow_add _ _ _
  generalize (x.toNat*2^(k % 32)+r) / 4294967296=u at *
  generalize (x.toNat*2^(k % 32)+r) % 4294967296=w at *
  exact zx9 h4 e8 e9 hk
 ·refine hx _ _ ?_
  have hi:i=a.length:=by omega
  subst hi
  simp [go_sem]
  obtain ⟨z,hz⟩:∃ z:UInt32,z.toNat=r % 4294967296:=⟨_,zau _⟩
  have e7:(r:Int) % 4294967296=(z.toNat:Int):=by rw [hz]; omega
  rw [e7]
  refine ⟨⟨by omega,by omega⟩,zab (zcs (out++[z])) (zbz (zcz rfl (by simp [go_sem]) (by simp [h1])) zcj) ?_⟩
  simp [go_sem]
  rw [zds,hz,h1]
  rw [List.take_length] at h4
  rw [Nat.mod_eq_of_lt (by omega),h4]
end Go.Ab
namespace Go.Ab
theorem z0s (a:List UInt32) (k:Nat) (hl:a.length<=1073741824) (hk:k<4294967296):Sp P F.i7 [.sl (ens a),.int .i64 k] (.pure (.sl (ens (lb (val a / 2^k))))):=by
 refine Sp.vz c.i7 fun _=>?_
 obtain ⟨q,hq⟩:∃ q,k / 32=q:=⟨_,rfl⟩
 obtain ⟨s,hs⟩:∃ s,k % 32=s:=⟨_,rfl⟩
 have e0:IntKind.i64.wrap ((k:Int) / 32)=(q:Int):=by rw [i64w (by omega) (by omega)]; omega
 simp [g.i7,go_sem]
 rw [e0]
 obtain ⟨A,hA⟩:∃ A,A=val (a.drop q) / 2^s:=⟨_,rfl⟩
 refine zai (S:=fun x:Nat × List UInt32=>mkSt [(0,.p (.sl (ens a))),(1,.p (.int .i64 k)),(5,.own 1 0 0 x.1),(6,.p (.int .i64 ((q:Int)+x.1)))] [(1,⟨1,avs x.2⟩)])
  (I:=fun x=>x.2.length=x.1/\(q+x.1<=a.length\/x.1=0)/\val x.2=A % 4294967296^x.1) (m:=fun x=>a.length - (q+x.1)) (0,[]) (Weak.nl 5 1 1 rfl (Weak.to [0,1,5,6] [((1,0),1)] (by simp [go_sem]))) ⟨rfl,by simp,by simp [Nat.mod_one]⟩ ?_
 rintro ⟨j,out⟩ ⟨h1,h2,h3⟩ R hn hr hx
 simp at h1 h2 h3
 simp [g.ow,go_sem]
 have es:((k:Int)).tmod 32=(s:Int):=by rw [<- hs]; exact z0b k 32
 have e4:s.min 64=s:=Nat.min_eq_left (by omega)
 have hs2:=zf2 (s:=s) (by omega)
 refine ⟨fun h=>?_,fun h=>?_⟩
 ·have ew:IntKind.i64.wrap ((q:Int)+j+1)=(q:Int)+j+1:=by rw [i64w (by omega) (by omega)]
  have ei:((q:Int)+j+1).toNat=q+j+1:=by omega
  have ei':((q:Int)+j).toNat=q+j:=by omega
  rw [ew]
  refine zab (zix _ _ (by omega)) rfl ?_
  simp [go_sem]
  refine zab (zix _ _ (by omega)) rfl ?_
  simp [go_sem]
  rw [es,ei,ei',i64w (by omega) (by omega)]
  have d1:=zgy a (q+j)
  have d2:=zgy a (q+j+1)
  have u1:=za1 (a.getD (q+j) 0)
  have u2:=za1 (a.getD (q+j+1) 0)
  simp only [List.getD_eq_getElem?_getD] at d1 d2 u1 u2
  generalize (a[q+j]?.getD 0).toNat=x at d1 u1 ⊢
  generalize (a[q+j+1]?.getD 0).toNat=y at d2 u2 ⊢
  have ho:=zxf (r:=y) (x:=x) (k:=32) (by omega) (by omega) (by omega)
  simp only [show (2:Int)^32=4294967296 from rfl,show (2:Nat)^32=4294967296 from rfl] at ho
  rw [ho,Int.toNat_natCast,e4]
  obtain ⟨z,hz⟩:∃ z:UInt32,z.toNat=(y*4294967296+x) / 2^s % 4294967296:=⟨_,zau _⟩
  have e7:((y*4294967296+x:Nat):Int) / 2^s % 4294967296=(z.toNat:Int):=by rw [hz]; simp
  rw [e7]
  refine ⟨by omega,by omega,hn (j+1,out++[z]) _ (Weak.to [0,1,5,6] [((30,0),1)] (by simp [go_sem,h1]; omega)) ⟨by simp [h1],by simp; omega,?_⟩ (by simp; omega)⟩
  simp
  have ed:A / 4294967296^j=val (a.drop (q+j)) / 2^s:=by
   rw [hA,Nat.div_div_eq_div_mul,Nat.mul_comm,<- Nat.div_div_eq_div_mul,znb,List.drop_drop]
  rw [zds,h1,h3,hz,Nat.mod_pow_succ,ed,d1,d2,zq4 _ _ _ _ (by omega)]
 ·refine hx _ _ ?_
  simp [go_sem]
  refine zab (zcs out) (zbz (zcz rfl rfl h1.symm) zcj) ?_
  simp [go_sem]
  have:val a / 2^k=A:=by rw [zcl k,hq,hs,<- Nat.div_div_eq_div_mul,znb,hA]
  rw [this,h3,Nat.mod_eq_of_lt]
  have h5:=zb1 (a.drop q)
  rw [List.length_drop] at h5
  refine Nat.lt_of_le_of_lt (hA ▸ Nat.div_le_self _ _) (Nat.lt_of_lt_of_le h5 (Nat.pow_le_pow_right (by omega) (by omega)))
end Go.Ab
namespace Go.Ab
open Enc (enc)
def idxI {α : Type} (p : α -> Bool) (l:List α):Int:=match l.findIdx? p with|some i=>i|none => -1
section
variable {α : Type} {p : α -> Bool} {l:List α}
theorem zk9 (h:∀ x∈l,p x=false):idxI p l = -1:=by
 unfold idxI
 rw [List.findIdx?_eq_none_iff.2 h]
theorem zrj {k:Nat} (hk:k<l.length) (h:∀ x∈l.take k,p x=false) (h2:p l[k]=true):idxI p l=k:=by
 unfold idxI
 have:l.findIdx? p=some k:=by
  rw [List.findIdx?_eq_some_iff_getElem]
  refine ⟨hk,h2,fun j hj=>?_⟩
  have:=h l[j] (by rw [List.mem_take_iff_getElem]; exact ⟨j,by omega,rfl⟩)
  simp [this]
 rw [this]
theorem zhd:(decide (0<=idxI p l))=l.any p:=by
 unfold idxI
 cases h:l.findIdx? p with
 | none =>
  have:=List.findIdx?_eq_none_iff.1 h
  simp
  exact fun x hx=>this x hx
 | some i =>
  obtain ⟨h1,h2,_⟩:=List.findIdx?_eq_some_iff_getElem.1 h
  simp
  exact ⟨l[i],List.getElem_mem _,h2⟩
end
theorem zfg (st:St) (l:List PV):(l.map AV.p).mapM (toPV st FUEL)=some l:=zx3 5 st l
theorem Sp.nilcase {P:Program} {f:FuncId} {r:RV} (h1:Sp P f [.nl] r) (h2:Sp P f [.sle] r):Sp P f [.sl []] r:=by
 refine ⟨h1.1,fun w M vals hM hv=>?_⟩
 cases hv with
 | cons _ x _ xs hx hxs =>
  cases hxs
  cases hx with
  | sl0 a cap =>
   cases a with
   | none=>exact h1.2 w M _ hM (.cons _ _ _ _ (.nl cap) .nil)
   | some a=>exact h2.2 w M _ hM (.cons _ _ _ _ (.sle a cap) .nil)
  | sl _ b o cap=>exact h2.2 w M _ hM (.cons _ _ _ _ (.sle _ cap) .nil)
end Go.Ab
namespace Go.Ab
open Enc (enc)
attribute [local go_sem] zal Opd.slots
def zcw (n:Nat):Nat:=if n=0 then 0 else Nat.log2 n+1
def len8:List UInt8:=[0,1,2,2,3,3,3,3,4,4,4,4,4,4,4,4,5,5,5,5,5,5,5,5,5,5,5,5,5,5,5,5,6,6,6,6,6,6,6,6,6,6,6,6,6,6,6,6,6,6,6,6,6,6,6,6,6,6,6,6,6,6,6,6,7,7,7,7,7,7,7,7,7,7,7,7,7,7,7,7,7,7,7,7,7,7,7,7,7,7,7,7,7,7,7,7,7,7,7,7,7,7,7,7,7,7,7,7,7,7,7,7,7,7,7,7,7,7,7,7,7,7,7,7,7,7,7,7]++List.replicate 128 8
theorem z1h:∀ n,n<256->len8[n]?=some (UInt8.ofNat (zcw n)):=by decide +kernel
theorem zgu {n m:Nat}:zcw n<=m ↔ n<2^m:=by
 unfold zcw
 split
 ·rename_i h; subst h; simp [Nat.two_pow_pos]
 ·rename_i h; rw [<- Nat.log2_lt h]; omega
theorem zh5 {n k:Nat} (h:2^k<=n):zcw n=k+zcw (n / 2^k):=by
 have key:∀ m,zcw n<=m ↔ k+zcw (n / 2^k)<=m:=by
  intro m
  rw [zgu]
  by_cases hm:k<=m
  ·have:k+zcw (n / 2^k)<=m ↔ zcw (n / 2^k)<=m - k:=by omega
   rw [this,zgu,Nat.div_lt_iff_lt_mul (Nat.two_pow_pos k),<- Nat.pow_add,Nat.sub_add_cancel hm]
  ·have:2^m<=2^k:=Nat.pow_le_pow_right (by omega) (by omega)
   constructor
   ·intro h2; omega
   ·intro h2; omega
 have h1:=(key (zcw n)).1 (Nat.le_refl _)
 have h2:=(key (k+zcw (n / 2^k))).2 (Nat.le_refl _)
 omega
theorem z4v (n:Nat) (h:n<256):∃ b:UInt8,len8[n]?=some b/\b.toNat=zcw n:=by
 refine ⟨_,z1h n h,?_⟩
 have:zcw n<=8:=zgu.2 (by omega)
 simp [UInt8.toNat_ofNat']; omega
theorem zte:(bya [0,1,2,2,3,3,3,3,4,4,4,4,4,4,4,4,5,5,5,5,5,5,5,5,5,5,5,5,5,5,5,5,6,6,6,6,6,6,6,6,6,6,6,6,6,6,6,6,6,6,6,6,6,6,6,6,6,6,6,6,6,6,6,6,7,7,7,7,7,7,7,7,7,7,7,7,7,7,7,7,7,7,7,7,7,7,7,7,7,7,7,7,7,7,7,7,7,7,7,7,7,7,7,7,7,7,7,7,7,7,7,7,7,7,7,7,7,7,7,7,7,7,7,7,7,7,7,7,8,8,8,8,8,8,8,8,8,8,8,8,8,8,8,8,8,8,8,8,8,8,8,8,8,8,8,8,8,8,8,8,8,8,8,8,8,8,8,8,8,8,8,8,8,8,8,8,8,8,8,8,8,8,8,8,8,8,8,8,8,8,8,8,8,8,8,8,8,8,8,8,8,8,8,8,8,8,8,8,8,8,8,8,8,8,8,8,8,8,8,8,8,8,8,8,8,8,8,8,8,8,8,8,8,8,8,8,8,8,8,8,8,8,8,8,8,8,8,8,8,8,8,8,8,8,8,8]).data.toList=len8:=by decide +kernel
theorem zx8 (x:UInt32):Sp P F.de [.int .u32 x.toNat] (.pure (.int .i64 (zcw x.toNat))):=by
 have hx:=x.toNat_lt
 generalize x.toNat=n at *
 have fin:∀ (m k:Nat),m<256->zcw n=k+zcw m->∀ (z:Int),z=m->∃ e,len8[z.toNat]?=some e/\(0<=z)/\IntKind.i64.wrap (e.toNat:Int)=e.toNat/\∀ k':Int,k'=k->IntKind.i64.wrap (k'+e.toNat)=(zcw n:Nat):=by
  intro m k hm hk z hz
  subst hz
  obtain ⟨b,h1,h2⟩:=z4v m hm
  have:zcw m<=8:=zgu.2 (by omega)
  have hn:zcw n<=32:=zgu.2 (by omega)
  exact ⟨b,by simpa using h1,by omega,i64w (by omega) (by omega),fun k' hk'=>by rw [i64w (by omega) (by omega)]; omega⟩
 refine Sp.vz c.de fun _=>?_
 simp [g.de,go_sem,zte]
 refine ⟨fun h1=>⟨fun h2=>?_,fun h2=>?_⟩,fun h1=>⟨fun h2=>?_,fun h2=>?_⟩⟩
 ·have e1:zcw n=24+zcw (n / 65536 / 256):=by
   have a1:=zh5 (n:=n) (k:=16) (by omega)
   have a2:=zh5 (n:=n / 2^16) (k:=8) (by omega)
   simp only [Nat.reducePow] at a1 a2
   omega
  obtain ⟨e,h3,h4,h5,h6⟩:=fin (n / 65536 / 256) 24 (by omega) e1 ((n:Int) / 65536 / 256 % 256) (by omega)
  rw [zgw]
  refine ⟨e,h3,?_⟩
  have e24:IntKind.i64.wrap 24=24:=i64w (by omega) (by omega)
  simp [go_sem,h4,e24,h5,h6 24 rfl]
 ·have e1:zcw n=16+zcw (n / 65536):=zh5 (n:=n) (k:=16) (by omega)
  obtain ⟨e,h3,h4,h5,h6⟩:=fin (n / 65536) 16 (by omega) e1 ((n:Int) / 65536 % 256) (by omega)
  rw [zgw]
  refine ⟨e,h3,?_⟩
  simp [go_sem,h4,h5,h6 16 rfl]
 ·have e1:zcw n=8+zcw (n / 256):=zh5 (n:=n) (k:=8) (by omega)
  obtain ⟨e,h3,h4,h5,h6⟩:=fin (n / 256) 8 (by omega) e1 ((n:Int) / 256 % 256) (by omega)
  rw [zgw]
  refine ⟨e,h3,?_⟩
  have e8:IntKind.i64.wrap 8=8:=i64w (by omega) (by omega)
  simp [go_sem,h4,e8,h5,h6 8 rfl]
 ·obtain ⟨e,h3,h4,h5,h6⟩:=fin n 0 (by omega) (by omega) ((n:Int) % 256) (by omega)
  have h7:=h6 0 rfl
  rw [Int.zero_add,h5] at h7
  have hn:zcw n<=32:=zgu.2 (by omega)
  have h8:IntKind.i64.wrap ((zcw n:Nat):Int)=(zcw n:Nat):=i64w (by omega) (by omega)
  rw [zgw]
  refine ⟨e,h3,?_⟩
  simp [go_sem,h4,h5,h7,h8]
end Go.Ab
namespace Go.Ab
open Enc (enc)
attribute [local go_sem] zal Opd.slots
theorem z1o (l:List Int) (f:FuncId) (caps:List PV) (p:Int->Bool) (hl:l.length<=4611686018427387904) (hf:∀ x∈l,Sp P f (enc x::caps) (.pure (.bool (p x)))) :
  Sp P F.jv [.sl (ens l),.fn f caps] (.pure (.int .i64 (idxI p l))):=by
 refine Sp.vz c.jv fun _=>?_
 simp [g.jv,go_sem]
 refine zai (S:=fun k:Nat=>mkSt [(0,.p (.sl (ens l))),(1,.p (.fn f caps)),(7,.p (.int .i64 l.length)),(8,.p (.int .i64 k))] []) (I:=fun k=>k<=l.length/\∀ x∈l.take k,p x=false) (m:=fun k=>l.length - k) 0
  (Weak.to [0,1,7,8] [] (by simp [go_sem])) ⟨by omega,by simp⟩ ?_
 rintro k ⟨h1,h2⟩ R hn hr hx
 have e1:=i64s k (by omega)
 simp [g.pd,mkSt,go_sem]
 refine ⟨fun hk=>?_,fun hk=>hx _ _ ?_⟩
 ·refine zae hk ?_
  try simp [go_sem]
  refine zaa (hf l[k] (List.getElem_mem hk)) (zbz rfl (zfg _ _)) ?_
  rcases Bool.eq_false_or_eq_true (p l[k]) with h3|h3
  ·simp [h3,go_sem]
   refine hr _ ?_
   simp [go_sem,zrj hk h2 h3]
  ·simp [h3,e1,go_sem]
   refine hn (k+1) _ (Weak.to [0,1,7,8] [] (by simp [go_sem])) ⟨by omega,fun x hx=>?_⟩ (by omega)
   rw [List.take_succ_eq_append_getElem hk] at hx
   rcases List.mem_append.1 hx with hx|hx
   ·exact h2 x hx
   ·simp at hx; rw [hx]; exact h3
 ·have:k=l.length:=by omega
  subst this
  simp [go_sem,zk9 (p:=p) (l:=l) (by simpa using h2)]
theorem z48 (l:List Int) (f:FuncId) (caps:List PV) (p:Int->Bool) (hl:l.length<=4611686018427387904) (hf:∀ x∈l,Sp P f (enc x::caps) (.pure (.bool (p x)))) :
  Sp P F.jj [.sl (ens l),.fn f caps] (.pure (.bool (l.any p))):=by
 refine Sp.vz c.jj fun _=>?_
 simp [g.jj,go_sem]
 refine zaa (z1o l f caps p hl hf) rfl ?_
 simp [go_sem,zhd]
theorem zor (l:List UInt32) (hl:l.length<=2147483648):Sp P F.ak [.sl (ens l)] (.pure (.sl (ens l))):=by
 cases l with
 | nil =>
  refine Sp.nilcase ?_ ?_
  ·refine Sp.vz c.ak fun _=>?_
   simp [g.ak,go_sem]
  ·refine Sp.vz c.ak fun _=>?_
   simp [g.ak,go_sem,LIM]
 | cons x l =>
  refine Sp.vz c.ak fun _=>?_
  simp at hl
  simp [g.ak,go_sem,LIM,hl]
theorem zvh (l:List Int) (hl:l.length<=2147483648):Sp P F.ax [.sl (ens l)] (.pure (.sl (ens l))):=by
 cases l with
 | nil =>
  refine Sp.nilcase ?_ ?_
  ·refine Sp.vz c.ax fun _=>?_
   simp [g.ax,go_sem]
  ·refine Sp.vz c.ax fun _=>?_
   simp [g.ax,go_sem,LIM]
 | cons x l =>
  refine Sp.vz c.ax fun _=>?_
  simp at hl
  simp [g.ax,go_sem,LIM,hl]
end Go.Ab
namespace Go.Ab
def blen (n:Nat):Nat:=if n=0 then 0 else Nat.log2 n+1
theorem zzr {x:Nat} (h:x<4294967296):blen x<=32:=by
 unfold blen; split
 ·omega
 ·have:=(Nat.log2_lt (n:=x) (k:=32) (by assumption)).2 h; omega
theorem z2r {x:Nat} (h:x≠0):1<=blen x:=by unfold blen; rw [if_neg h]; omega
theorem z1i (x:UInt32):Sp P F.de [.int .u32 x.toNat] (.pure (.int .i64 (blen x.toNat))):=zx8 x
theorem zje (l:List UInt32) (hl:l.length<=2147483648):Sp P F.ak [.sl (ens l)] (.pure (.sl (ens l))):=zor l hl
end Go.Ab
