/-
Proofs for the law TransducerWeighsMadeModels, part 24. Conditions: none.
-/
import Derived.Test.YtbhboeijjgiflaaGreatDoorCP23
set_option maxRecDepth 100000
set_option maxHeartbeats 4000000
set_option linter.all false
namespace Go.Ab
def val:List UInt32->Nat
 | []=>0
 | x::l=>x.toNat+4294967296*val l
def lb(n:Nat):List UInt32:=if h:n=0 then[]else UInt32.ofNat n::lb (n / 4294967296)
termination_by n
decreasing_by omega
theorem za5(x:UInt32):x.toNat<4294967296:=x.toNat_lt
theorem zaw(n:Nat):(UInt32.ofNat n).toNat=n % 4294967296:=by simp[UInt32.toNat_ofNat']
theorem zhb{x y:UInt32}(h:x.toNat=y.toNat):x=y:=UInt32.toNat_inj.1 h
@[simp] theorem z1l:val []=0:=rfl
@[simp] theorem zbs(x:UInt32)(l:List UInt32):val (x::l)=x.toNat+4294967296*val l:=rfl
@[simp] theorem yc2:lb 0=[]:=by rw[lb];simp
theorem zlj{n:Nat}(h:n≠0):lb n=UInt32.ofNat n::lb (n / 4294967296):=by rw[lb];simp[h]
@[simp] theorem zo8(n:Nat):val (lb n)=n:=by
 induction n using Nat.strongRecOn with
 | ind n ih =>
  by_cases h:n=0
  ·subst h;simp
  ·rw[zlj h,zbs,zaw,ih _ (by omega)];omega
theorem zo9(l r:List UInt32):val (l++r)=val l+4294967296^l.length*val r:=by
 induction l with
 | nil=>simp
 | cons x l ih=>rw[yo0,zbs,ih,zbs,yn6,ym2];rw[yn3,ymg _ 4294967296,ym5];omega
theorem zcg(l:List UInt32):val l<4294967296^l.length:=by
 induction l with
 | nil=>simp
 | cons x l ih=>rw[zbs,yn6,ym2];have:=za5 x;omega
theorem zeq(n:Nat):val (List.replicate n 0)=0:=by
 induction n with
 | zero=>rfl
 | succ n ih=>rw[yok,zbs,ih];rfl
theorem zb9(l:List UInt32)(i:Nat):val (l.take (i+1))=val (l.take i)+4294967296^i*(l.getD i 0).toNat:=by
 induction l generalizing i with
 | nil=>simp
 | cons x l ih =>
  cases i with
  | zero=>simp
  | succ i=>simp only[ypl,zbs,ih,List.getD_cons_succ,ym2];rw[yn3,ymg (4294967296^i) 4294967296,ym5];omega
theorem zdz(l:List UInt32){i:Nat}(h:l.length<=i):val (l.take i)=val l:=by rw[ylv h]
theorem zep(l:List UInt32)(x:UInt32):val (l++[x])=val l+4294967296^l.length*x.toNat:=by rw[zo9];simp
theorem zqn(l:List UInt32)(i:Nat)(x:UInt32)(h:i<l.length):val (l.set i x)+4294967296^i*(l.getD i 0).toNat=val l+4294967296^i*x.toNat:=by
 induction l generalizing i with
 | nil=>simp at h
 | cons y l ih =>
  cases i with
  | zero=>simp;omega
  | succ i =>
   have:=ih i (by simpa using h);simp only[List.set_cons_succ,zbs,List.getD_cons_succ,Nat.pow_succ];rw[Nat.mul_comm (4294967296^i) 4294967296,Nat.mul_assoc,Nat.mul_assoc];omega
theorem zw9(l:List UInt32)(i:Nat):val l=val (l.take i)+4294967296^(min i l.length)*val (l.drop i):=by
 conv=>lhs;rw[<- List.take_append_drop i l]
 rw[zo9,yms]
theorem zqo(l:List UInt32)(i:Nat):val l / 4294967296^i=val (l.drop i):=by
 rcases ymk l.length i with h|h
 ·rw[ypc (by omega)];refine yoc (ylu (zcg l) (ymn (by omega) (by omega)))
 ·have:=zw9 l i;rw[yne h]at this;rw[this,yqb _ _ (ymv (by omega))];have h2:=zcg (l.take i);rw[yms,yne h]at h2;rw[yoc h2];omega
theorem zgj(l:List UInt32)(i:Nat):(l.getD i 0).toNat=val l / 4294967296^i % 4294967296:=by
 rw[zqo];rcases ymk i l.length with h|h
 ·rw[ynv h,zbs];simp[h]
 ·rw[ypc h];simp[yn4 h]
def zbn(l:List UInt32):Prop:=l.getLast?≠some 0
theorem zcn:∀ {l:List UInt32},zbn l->lb (val l)=l
 | [],_=>by simp
 | x::l,h=>by
  have hl:zbn l:=by
   cases l with
   | nil=>simp[zbn]
   | cons y r=>simpa[zbn]using h
  have ih:=zcn hl;have hne:val (x::l)≠0:=by
   intro h0;simp only[zbs]at h0;have hx:x=0:=zhb (by simp;omega);have hv:val l=0:=by omega
   rw[hv]at ih;simp at ih;subst hx;subst ih;simp[zbn]at h
  rw[zlj hne];have h1:UInt32.ofNat (val (x::l))=x:=zhb (by rw[zaw,zbs];have:=za5 x;omega);have h2:val (x::l) / 4294967296=val l:=by rw[zbs];have:=za5 x;omega
  rw[h1,h2,ih]
theorem zbv(n:Nat):zbn (lb n):=by
 induction n using Nat.strongRecOn with
 | ind n ih =>
  by_cases h:n=0
  ·subst h;simp[zbn]
  ·rw[zlj h];have:=ih (n / 4294967296) (by omega);by_cases h2:n / 4294967296=0
   ·rw[h2];simp only[yc2,zbn,List.getLast?_singleton,ne_eq,yl3];intro h3;have:=congrArg UInt32.toNat h3;rw[zaw]at this;simp at this;omega
   ·rw[zlj h2]at this ⊢;simpa[zbn]using this
@[simp] theorem yee(n:Nat):lb n=[] ↔ n=0:=⟨fun h=>by have:=congrArg val h;simpa using this,fun h=>by subst h;simp⟩
theorem zav{n k:Nat}(h:n<4294967296^k):(lb n).length<=k:=by
 induction k generalizing n with
 | zero=>simp at h;subst h;simp
 | succ k ih =>
  by_cases h0:n=0
  ·subst h0;simp
  ·rw[zlj h0,yn6];have:=@ih (n / 4294967296) (by rw[ym2]at h;omega);omega
theorem znq:lb 1=[1]:=by rw[zlj (by omega)];simp
theorem zkt{n:Nat}(h:n≠0):0<(lb n).length:=by rw[zlj h];simp
theorem znr{n:Nat}(h:n≠0):4294967296^((lb n).length - 1)<=n:=by
 induction n using Nat.strongRecOn with
 | ind n ih =>
  rw[zlj h,yn6,yp3];by_cases h2:n / 4294967296=0
  ·rw[h2];simp;omega
  ·have:=ih _ (by omega) h2;have hp:=zkt h2;have e:(lb (n / 4294967296)).length=(lb (n / 4294967296)).length - 1+1:=by omega
   rw[e,ym2];omega
def cmpN(m n:Nat):Int:=if m<n then -1 else if m=n then 0 else 1
theorem zgx(l:List UInt32)(i:Nat):val l / 4294967296^i=4294967296*(val l / 4294967296^(i+1))+(l.getD i 0).toNat:=by rw[zgj,ym2,<- Nat.div_div_eq_div_mul];omega
theorem zgk(l:List UInt32){i:Nat}(h:l.length<=i):val l / 4294967296^i=0:=by rw[zqo,ypc h];rfl
theorem zj7{m n k:Nat}(h:m / k<n / k):m<n:=by apply Nat.lt_of_not_le;intro h2;have:=Nat.div_le_div_right (c:=k) h2;omega
theorem zqr{l:List UInt32}{i:Nat}{x:UInt32}(h:i<l.length):(l.set i x).take (i+1)=l.take i++[x]:=by rw[List.take_succ_eq_append_getElem (by simpa using h)];simp[List.take_set_of_le]
theorem zsv{l:List UInt32}{i:Nat}{x:UInt32}(h:i<l.length):val ((l.set i x).take (i+1))=val (l.take i)+4294967296^i*x.toNat:=by rw[zqr h,zep,yms,yne (by omega)]
theorem zin{l:List UInt32}{n:Nat}(h:val l<4294967296^n):val (l.take n)=val l:=by
 rcases ymk n l.length with hn|hn
 ·have h1:=zw9 l n;rw[yne (by omega)]at h1;have:val (l.drop n)=0:=by apply yqr;intro h2;have:=yq4 (4294967296^n) h2;omega
  rw[this]at h1;omega
 ·rw[zdz _ hn]
theorem zpa{v v' p q B sum o x y d r A T:Nat}(hv:v'+p*q*o=v+p*q*r)(hk:v+p*q*sum=A+p*x*T)(e4:B*d+r=sum+(o+x*y)) :
  v'+p*(q*B)*d=A+p*x*(T+q*y):=by
 have e5:p*q*(B*d+r)=p*q*(sum+(o+x*y)):=by rw[e4]
 simp only[yn3,ym7,ym5,ymg,Nat.mul_left_comm]at *
 omega
theorem zc2(k:Nat):2^k=4294967296^(k / 32)*2^(k % 32):=by have:(4294967296:Nat)=2^32:=rfl;rw[this,<- Nat.pow_mul,<- Nat.pow_add];congr 1;omega
theorem zhl{s:Nat}(h:s<32):2^s<=2147483648:=ymn (n:=2) (by omega) (show s<=31 by omega)
theorem zvh(x y r s:Nat)(hs:s<32):(x+4294967296*(y+4294967296*r)) / 2^s % 4294967296=(y*4294967296+x) / 2^s % 4294967296:=by
 have h:2^s*2^(32 - s)=4294967296:=by rw[<- Nat.pow_add,show s+(32 - s)=32 by omega]
 have e:x+4294967296*(y+4294967296*r)=(y*4294967296+x)+2^s*(4294967296*(2^(32 - s)*r)):=by rw[<- Nat.mul_assoc (2^s),ymg (2^s) 4294967296,ym5,<- Nat.mul_assoc (2^s),h,yn3];omega
 rw[e,yqb _ _ (ymv (by omega)),yqs]
theorem zio(l:List UInt32)(i:Nat):val (l.drop i)=(l.getD i 0).toNat+4294967296*val (l.drop (i+1)):=by
 rcases ymk i l.length with h|h
 ·rw[ynv h,zbs];simp[h]
 ·rw[ypc h,ypc (by omega)];simp[yn4 h]
theorem ziy(n:Nat):n<4294967296^(lb n).length:=by have:=zcg (lb n);simpa using this
theorem z88{U V i L:Nat}(hL:4294967296^(L - 1)<=V)(hL0:0<L)(hU:U<V*4294967296^(i+1)) :
  U / (V*4294967296^i)<=min (U / 4294967296^(i+L - 1) / (V / 4294967296^(L - 1))) 4294967295:=by
 have hp:∀ k,0<4294967296^k:=fun k=>ymv (by omega);have hV:0<V:=ylu (hp _) hL;refine Nat.le_min.2 ⟨?_,?_⟩
 ·have ht:0<V / 4294967296^(L - 1):=Nat.div_pos hL (hp _);rw[yqc ht,yqc (hp _)];have h1:U / (V*4294967296^i)*(V*4294967296^i)<=U:=Nat.div_mul_le_self _ _;have h2:V / 4294967296^(L - 1)*4294967296^(L - 1)<=V:=Nat.div_mul_le_self _ _;have e:i+L - 1=(L - 1)+i:=by omega
  rw[e,ym1];generalize U / (V*4294967296^i)=d at *
  have h3:d*(V / 4294967296^(L - 1)*4294967296^(L - 1))<=d*V:=yn9 _ h2;have h4:=ylw (4294967296^i) h3;simp only[ym5]at *
  omega
 ·have:U / (V*4294967296^i)<4294967296:=by rw[yp2 (yod hV (hp _))];rw[ym2]at hU;rw[ymg 4294967296,ym5];exact hU
  omega
theorem zzk{U n:Nat}(h:U<4294967296^(n+2)):((lb U).getD (n+1) 0).toNat*4294967296+((lb U).getD n 0).toNat=U / 4294967296^n:=by
 have h1:=zgj (lb U) (n+1);have h2:=zgj (lb U) n;have e:U / 4294967296^(n+1)=U / 4294967296^n / 4294967296:=by rw[ym2,yp1]
 have e2:U / 4294967296^n<4294967296*4294967296:=by
  rw[yp2 (ymv (by omega))];have:4294967296^(n+2)=4294967296*4294967296*4294967296^n:=by rw[ym1,ymg]
  omega
 rw[zo8]at h1 h2;rw[h1,h2,e];generalize U / 4294967296^n=x at *
 omega
theorem z1m{V:Nat}(hV:V≠0):((lb V).getD ((lb V).length - 1) 0).toNat=V / 4294967296^((lb V).length - 1)/\0<V / 4294967296^((lb V).length - 1):=by
 have h1:=zgj (lb V) ((lb V).length - 1);rw[zo8]at h1;have h2:=ziy V;have h3:=zkt hV;constructor
 ·rw[h1,yn8];rw[yp2 (ymv (by omega)),ymg,<- Nat.pow_succ,Nat.succ_eq_add_one,show(lb V).length - 1+1=(lb V).length by omega];exact h2
 ·exact Nat.div_pos (znr hV) (ymv (by omega))
theorem yas(i:Nat):2^(32*i)=4294967296^i:=by rw[ypq]
theorem zij{m n:Nat}:cmpN m n<0 ↔ m<n:=by unfold cmpN;split<;>(try split)<;>omega
theorem zdt{m n:Nat}:0<=cmpN m n ↔ n<=m:=by unfold cmpN;split<;>(try split)<;>omega
theorem zh0{m n:Nat}:cmpN m n=0 ↔ m=n:=by unfold cmpN;split<;>(try split)<;>omega
theorem zk7(a:List UInt32)(i:Int)(h:0<=i):Sp P F.bk [.sl (ens a),.int .i64 i] (.pure (.int .u64 (a.getD i.toNat 0).toNat)):=by
 refine Sp.vz c.bk fun _=>?_;simp[g.bk,go_sem];refine⟨fun h1=>zae (by omega) ⟨h,?_⟩,fun h1=>?_⟩
 ·have:i.toNat<a.length:=by omega
  simp[*]
 ·have:a.length<=i.toNat:=by omega
  simp[this]
theorem zdf(a:List UInt32):Sp P F.av [.sl (ens a)] (.pure (.sl (ens (lb (val a))))):=by
 refine Sp.vz c.av fun hs=>?_;have hl:=znc hs.1;simp[g.av,go_sem];refine zai (S:=fun l:List UInt32=>mkSt [(0,.p (.sl (ens l)))] []) (I:=fun l=>val l=val a/\l.length<=9223372036854775807) (m:=fun l=>l.length) a (Weak.of (keep:=[0]) (ids:=[]) rfl) ⟨rfl,hl⟩ ?_;rintro l ⟨h1,h2⟩ R hn hr hx;have e:IntKind.i64.wrap (↑l.length - 1) = ↑l.length - 1:=i64w (by omega) (by omega);have e2:((l.length:Int) - 1).toNat=l.length - 1:=by omega
 simp[g.s9,mkSt,e,e2,go_sem];have out:zbn l->R (Exit.exit 0) ⟨[(0,.p (.sl (ens l)))],[(DEAD,[none])]⟩:=fun hc=>by refine hx _ _ ?_;simp[go_sem];rw[<- h1,zcn hc]
 refine⟨fun h=>zae (by omega) ⟨by omega,fun h0=>⟨by omega,hn (l.take (l.length - 1)) _ (Weak.of (keep:=[0]) (ids:=[]) rfl) ?_ ?_⟩,fun h0=>out ?_⟩,fun h=>out ?_⟩
 ·refine⟨?_,by simp;omega⟩;have h3:l=l.take (l.length - 1)++[0]:=by
   conv=>lhs;rw[<- List.take_append_getLast l (by intro h4;simp[h4]at h)]
   rw[List.getLast_eq_getElem,zhb (x:=l[l.length - 1]) (y:=0) (by simpa using h0)]
  rw[h3,zep]at h1;simpa using h1
 ·simp;omega
 ·intro h4;rw[List.getLast?_eq_getElem?,ylt (by omega)]at h4;simp at h4;rw[h4]at h0;exact h0 rfl
 ·subst h;simp[zbn]
theorem zof(a b:List UInt32):Sp P F.di [.sl (ens a),.sl (ens b)] (.pure (.int .i64 (cmpN (val a) (val b)))):=by
 refine Sp.vz c.di fun hs=>?_;have hl:=znc hs.1;have hl2:=znc hs.2.1;simp[g.di,go_sem];have e:IntKind.i64.wrap ((if a.length<b.length then(b.length:Int)else a.length) - 1)=((max a.length b.length:Nat):Int) - 1:=by rw[i64w (by split<;>omega) (by split<;>omega)];split<;>omega
 simp only[e];refine zai (S:=fun k:Nat=>mkSt [(0,.p (.sl (ens a))),(1,.p (.sl (ens b))),(5,.p (.int .i64 ((k:Int) - 1)))] []) (I:=fun k=>k<=max a.length b.length/\val a / 4294967296^k=val b / 4294967296^k) (m:=fun k=>k) (max a.length b.length) (Weak.of (keep:=[0,1,5]) (ids:=[]) rfl) ⟨yl8 _,by rw[zgk _ (by omega),zgk _ (by omega)]⟩ ?_;rintro k ⟨h1,h2⟩ R hn hr hx;simp[g.sh,mkSt,go_sem];refine⟨fun hk=>?_,fun hk=>?_⟩
 ·refine zac (zk7 _ _ (by omega)) rfl ?_;simp[go_sem];refine zac (zk7 _ _ (by omega)) rfl ?_;simp[go_sem];have e2:((k:Int) - 1).toNat=k - 1:=by omega
  have e3:IntKind.i64.wrap ((k:Int) - 1 - 1)=((k - 1:Nat):Int) - 1:=by rw[i64w (by omega) (by omega)];omega
  have d1:=zgx a (k - 1);have d2:=zgx b (k - 1);rw[show k - 1+1=k by omega]at d1 d2;have u1:=za5 (a.getD (k - 1) 0);have u2:=za5 (b.getD (k - 1) 0);simp only[ylr]at d1 d2 u1 u2;simp only[e2,e3];generalize (a[k - 1]?.getD 0).toNat=x at d1 u1 ⊢;generalize (b[k - 1]?.getD 0).toNat=y at d2 u2 ⊢;refine⟨fun heq=>hn (k - 1) _ (Weak.of (keep:=[0,1,5]) (ids:=[]) rfl) ⟨by omega,by omega⟩ (by omega),fun hne=>hr _ ?_⟩;simp[go_sem];have hlt:val a / 4294967296^(k - 1)<val b / 4294967296^(k - 1)\/val b / 4294967296^(k - 1)<val a / 4294967296^(k - 1):=by omega
  simp only[wrap_i64];rcases hlt with h|h
  ·have:=zj7 h;rw[cmpN,yl0 this];omega
  ·have:=zj7 h;rw[cmpN,yl1 (by omega),yl1 (by omega)];omega
 ·refine hx _ _ ?_;simp[go_sem];have:k=0:=by omega
  subst this;simp at h2;simp[cmpN,h2]
theorem yb8(a b:List UInt32)(hl:a.length<=1073741824)(hl2:b.length<=1073741824):Sp P F.mn [.sl (ens a),.sl (ens b)] (.pure (.sl (ens (lb (val a+val b))))):=by
 refine Sp.vz c.mn fun _=>?_;simp[g.mn,go_sem]
 refine zai (S:=fun x:Nat × Nat × List UInt32=>mkSt [(0,.p (.sl (ens a))),(1,.p (.sl (ens b))),(5,.own 1 0 0 x.2.2.length),(6,.p (.int .u64 x.2.1)),(7,.p (.int .i64 x.1))] [(1,⟨1,avs x.2.2⟩)])
  (I:=fun x=>x.2.2.length=x.1/\(x.1<=max a.length b.length+1/\(x.1=max a.length b.length+1->x.2.1=0))/\x.2.1<=1/\val x.2.2+4294967296^x.1*x.2.1=val (a.take x.1)+val (b.take x.1)) (m:=fun x=>max a.length b.length+1 - x.1) (0,0,[]) (Weak.nl 5 1 1 rfl (Weak.of (keep:=[0,1,5,6,7]) (ids:=[((1,0),1)]) rfl)) ⟨rfl,⟨by simp,by simp⟩,by simp,by simp⟩ ?_
 rintro⟨i,sum,out⟩ ⟨h1,h2,h3,h4⟩ R hn hr hx;simp at h1 h2 h3 h4;simp[g.ss,go_sem];refine⟨fun h=>?_,fun h=>⟨fun h'=>?_,fun h'=>?_⟩⟩;rotate_left 2
 ·refine hx _ _ ?_;simp[go_sem];refine zac (zdf out) (by simp[go_sem]) ?_;simp[go_sem];rw[h']at h4;rw[ylv (by omega),ylv (by omega)]at h4;simp at h4;rw[h4]
 all_goals
  refine zac (zk7 _ _ (by omega)) rfl ?_;simp[go_sem];refine zac (zk7 _ _ (by omega)) rfl ?_;simp[go_sem];have e1:=i64s i (by omega);have t1:=zb9 a i;have t2:=zb9 b i;have u1:=za5 (a.getD i 0);have u2:=za5 (b.getD i 0);simp only[ylr]at t1 t2 u1 u2;generalize (a[i]?.getD 0).toNat=x at t1 u1 ⊢;generalize (b[i]?.getD 0).toNat=y at t2 u2 ⊢;have hxy:max a.length b.length<=i->x=0/\y=0:=fun hm=>by
   rw[ylv (by omega),ylv (by omega)]at t1 t2;have hp:0<4294967296^i:=ymv (by omega);constructor
   ·apply yqr;intro h0;have:=yod hp h0;omega
   ·apply yqr;intro h0;have:=yod hp h0;omega
  have e2:((sum:Int)+(↑x + ↑y)) % 18446744073709551616 / 4294967296=(((sum+x+y) / 4294967296:Nat):Int):=by omega
  obtain⟨z,hz⟩:∃ z:UInt32,z.toNat=(sum+x+y) % 4294967296:=⟨_,zaw _⟩;have e3:((sum:Int)+(↑x + ↑y)) % 4294967296=(z.toNat:Int):=by rw[hz];omega
  rw[e1,e2,e3];refine⟨by split at h<;>omega,hn (i+1,(sum+x+y) / 4294967296,out++[z]) _ (Weak.to [0,1,5,6,7] [((34,0),1)] (by simp[go_sem])) ⟨by simp[h1],?_,?_,?_⟩ ?_⟩
  all_goals simp
  ·split at h<;>omega
  ·omega
  ·rw[zep,hz,h1,t1,t2,ym2];have e4:sum+x+y=4294967296*((sum+x+y) / 4294967296)+(sum+x+y) % 4294967296:=by omega
   generalize 4294967296^i=p at h4 ⊢;generalize (sum+x+y) / 4294967296=q at e4 ⊢;generalize (sum+x+y) % 4294967296=r at e4 ⊢;have e5:p*(sum+x+y)=p*4294967296*q+p*r:=by rw[e4,yn3,ym5]
   rw[yn3,yn3]at e5;omega
  ·split at h<;>omega
theorem zl8(a b:List UInt32)(hl:a.length<=1073741824)(hab:val b<=val a):Sp P F.fm [.sl (ens a),.sl (ens b)] (.pure (.sl (ens (lb (val a - val b))))):=by
 refine Sp.vz c.fm fun _=>?_;simp[g.fm,go_sem]
 refine⟨by omega,zai (S:=fun x:Nat × Nat × List UInt32=>mkSt [(0,.p (.sl (ens a))),(1,.p (.sl (ens b))),(5,.own 1 0 0 a.length),(6,.p (.int .u64 x.2.1)),(13,.p (.int .i64 a.length)),(14,.p (.int .i64 x.1))] [(1,⟨1,avs x.2.2⟩)])
  (I:=fun x=>x.2.2.length=a.length/\x.1<=a.length/\x.2.1<=1/\val (x.2.2.take x.1)+val (b.take x.1)=val (a.take x.1)+4294967296^x.1*x.2.1) (m:=fun x=>a.length - x.1) (0,0,List.replicate a.length 0)
  (Weak.to [0,1,5,6,13,14] [((11,0),1)] (by simp[go_sem])) ⟨by simp,by simp,by simp,by simp⟩ ?_⟩
 rintro⟨i,less,out⟩ ⟨h1,h2,h3,h4⟩ R hn hr hx;simp at h1 h2 h3 h4;simp[g.sx,go_sem];refine⟨fun h=>?_,fun h=>?_⟩
 ·refine zac (zk7 _ _ (by omega)) rfl ?_;simp[go_sem];refine zac (zk7 _ _ (by omega)) rfl ?_;simp[go_sem];have e1:=i64s i (by omega);have t1:=zb9 a i;have t2:=zb9 b i;have u1:=za5 (a.getD i 0);have u2:=za5 (b.getD i 0);simp only[ylr]at t1 t2 u1 u2;generalize (a[i]?.getD 0).toNat=x at t1 u1 ⊢;generalize (b[i]?.getD 0).toNat=y at t2 u2 ⊢;obtain⟨z,hz⟩:∃ z:UInt32,z.toNat=(x+4294967296 - y - less) % 4294967296:=⟨_,zaw _⟩;obtain⟨l',hl'⟩:∃ l':Nat,l'=if x<y+less then 1 else 0:=⟨_,rfl⟩
  have e2:((x:Int) - ↑y - ↑less) % 18446744073709551616 / 9223372036854775808=(l':Int):=by subst hl';split<;>omega
  have e3:((x:Int) - ↑y - ↑less) % 4294967296=(z.toNat:Int):=by rw[hz];omega
  refine⟨by omega,zae (by omega) ?_⟩;rw[e1,e2,e3];refine hn (i+1,l',out.set i z) _ (Weak.to [0,1,5,6,13,14] [((1,0),1)] (by simp[go_sem])) ⟨by simp[h1],by simp;omega,by simp;subst hl';split<;>omega,?_⟩ ?_
  ·simp;rw[zsv (by omega),hz,t1,t2,ym2];have e4:x+4294967296*l'=y+less+(x+4294967296 - y - less) % 4294967296:=by subst hl';split<;>omega
   generalize 4294967296^i=p at *
   generalize (x+4294967296 - y - less) % 4294967296=r at *
   grind
  ·simp;omega
 ·refine hx _ _ ?_;have hi:i=a.length:=by omega
  subst hi;rw[<- h1,ym4,h1,ym4,zin (yml hab (zcg a))]at h4;have u1:=zcg out;rw[h1]at u1;have hless:less=0:=by
   rcases ymk 0 less with h5|h5
   ·have:less=1:=by omega
    subst this;omega
   ·omega
  subst hless;simp[go_sem];refine zac (zdf out) (by simp[go_sem,<- h1]) ?_;simp[go_sem];rw[show val out=val a - val b by omega]
theorem zh7(a b:List UInt32)(hl:a.length<=536870912)(hl2:b.length<=536870912):Sp P F.fj [.sl (ens a),.sl (ens b)] (.pure (.sl (ens (lb (val a*val b))))):=by
 refine Sp.vz c.fj fun _=>?_;have e0:IntKind.i64.wrap ((a.length:Int)+b.length)=((a.length+b.length:Nat):Int):=i64w (by omega) (by omega);simp[g.fj,e0,go_sem];have e0':((a.length:Int)+b.length).toNat=a.length+b.length:=by omega
 simp only[e0']
 refine⟨by omega,zai (S:=fun x:Nat × List UInt32=>mkSt [(0,.p (.sl (ens a))),(1,.p (.sl (ens b))),(5,.own 1 0 0 (a.length+b.length)),(16,.p (.int .i64 a.length)),(17,.p (.int .i64 x.1))] [(1,⟨1,avs x.2⟩)])
  (I:=fun x=>x.2.length=a.length+b.length/\x.1<=a.length/\val x.2=val (a.take x.1)*val b) (m:=fun x=>a.length - x.1) (0,List.replicate (a.length+b.length) 0)
  (Weak.to [0,1,5,16,17] [((14,0),1)] (by simp[go_sem])) ⟨by simp,by simp,by simp[zeq]⟩ ?_⟩
 rintro⟨i,out⟩ ⟨h1,h2,h3⟩ R hn hr hx;simp at h1 h2 h3;simp[g.sn,go_sem];refine⟨fun h=>?_,fun h=>?_⟩
 ·refine zai (S:=fun x:Nat × Nat × List UInt32=>mkSt [(0,.p (.sl (ens a))),(1,.p (.sl (ens b))),(5,.own 1 0 0 (a.length+b.length)),(6,.p (.int .i64 i)),(7,.p (.int .u64 x.2.1)),(8,.p (.int .i64 x.1)),(16,.p (.int .i64 a.length)),(17,.p (.int .i64 i))] [(1,⟨1,avs x.2.2⟩)])
   (I:=fun x=>x.2.2.length=a.length+b.length/\x.1<=b.length+1/\x.2.1<4294967296/\val x.2.2+4294967296^i*4294967296^x.1*x.2.1=val (a.take i)*val b+4294967296^i*(a.getD i 0).toNat*val (b.take x.1)) (m:=fun x=>b.length+1 - x.1) (0,0,out)
   (Weak.to [0,1,5,6,7,8,16,17] [((1,0),1)] (by simp[go_sem])) ⟨by simp[h1],by simp,by simp,by simp[h3]⟩ ?_
  rintro⟨j,sum,o2⟩ ⟨k1,k2,k3,k4⟩ R2 hn2 hr2 hx2;simp at k1 k2 k3 k4;simp[g.sk,go_sem];have hlim:0<sum->j<b.length+1:=fun hs=>by
   apply Nat.lt_of_not_le;intro hj;have hj:j=b.length+1:=by omega
   subst hj;rw[zdz b (by omega)]at k4;have q1:val (a.take i)*val b+4294967296^i*(a.getD i 0).toNat*val b=val (a.take (i+1))*val b:=by rw[zb9];grind
   simp only[ylr]at q1;rw[q1]at k4;have q2:val (a.take (i+1))<4294967296^(i+1):=ylu (zcg _) (ymn (by omega) (by simp;omega));have q3:=yn7 q2 (zcg b);have q4:4294967296^(i+1)*4294967296^b.length=4294967296^i*4294967296^(b.length+1):=by rw[<- Nat.pow_add,<- Nat.pow_add];congr 1;omega
   have q5:=yq4 (4294967296^i*4294967296^(b.length+1)) hs;omega
  refine⟨fun g=>?_,fun g=>⟨fun g'=>?_,fun g'=>?_⟩⟩;rotate_left 2
  ·refine hx2 _ _ ?_;simp[go_sem];have e1:=i64s i (by omega);rw[e1];refine hn (i+1,o2) _ (Weak.to [0,1,5,16,17] [((1,0),1)] (by simp[go_sem])) ⟨by simp[k1],by simp;omega,?_⟩ (by simp;omega);simp;rw[g',zdz b (by omega)]at k4;rw[zb9];simp only[ylr]
   grind
  all_goals
   have hj:j<=b.length:=by first|omega|(have:=hlim g';omega)
   have ew:IntKind.i64.wrap ((i:Int)+j)=((i+j:Nat):Int):=i64w (by omega) (by omega);have ew':((i:Int)+j).toNat=i+j:=by omega
   simp[ew,ew'];refine⟨by omega,zae (by omega) ?_⟩;refine zaf (zk7 _ _ (by omega)) rfl ?_;simp[go_sem];refine zaf (zk7 _ _ (by omega)) rfl ?_;simp[go_sem];have e1:=i64s j (by omega);have t1:=zb9 b j;have u0:=za5 (a.getD i 0);have u1:=za5 (b.getD j 0);have u2:=za5 o2[i+j];have vs:∀ z,val (o2.set (i+j) z)+4294967296^(i+j)*o2[i+j].toNat=val o2+4294967296^(i+j)*z.toNat:=fun z=>by have:=zqn o2 (i+j) z (by omega);simpa[List.getElem?_eq_getElem (show i+j<o2.length by omega)]using this
   simp only[ylr]at t1 u0 u1 k4;rw[ew,e1,ymy];refine⟨by omega,zae (by omega) ?_⟩;generalize hx1:(a[i]?.getD 0).toNat=x at u0 k4 ⊢;generalize (b[j]?.getD 0).toNat=y at t1 u1 ⊢;generalize o2[i+j].toNat=o at u2 vs ⊢;have hxy:x*y<=4294967295*4294967295:=yma (by omega) (by omega);obtain⟨z,hz⟩:∃ z:UInt32,z.toNat=(sum+(o+x*y)) % 4294967296:=⟨_,zaw _⟩;have e2:((sum:Int)+(o+x*y)) % 18446744073709551616 / 4294967296=(((sum+(o+x*y)) / 4294967296:Nat):Int):=by
    have:((x:Int)*y)=((x*y:Nat):Int):=by simp
    rw[this];omega
   have e3:((sum:Int)+(o+x*y)) % 4294967296=(z.toNat:Int):=by
    have:((x:Int)*y)=((x*y:Nat):Int):=by simp
    rw[this,hz];omega
   rw[e2,e3];refine hn2 (j+1,(sum+(o+x*y)) / 4294967296,o2.set (i+j) z) _ (Weak.to [0,1,5,6,7,8,16,17] [((1,0),1)] (by simp[go_sem])) ⟨by simp[k1],by simp;omega,by simp;omega,?_⟩ (by simp;omega);simp;have v:=vs z;rw[hz,ym1]at v;rw[t1,ym2,hx1];have e4:=ypr (sum+(o+x*y)) 4294967296;exact zpa v k4 e4
 ·refine hx _ _ ?_;simp[go_sem];refine zac (zdf out) (by simp[go_sem,<- h1]) ?_;simp[go_sem];have:i=a.length:=by omega
  subst this;rw[h3,ym4]
theorem z7k(a:List UInt32)(d:UInt32)(hl:a.length<=1073741824)(hd:d≠0):Sp P F.mq [.sl (ens a),.int .u32 d.toNat] (.pure (.tup [.sl (ens (lb (val a / d.toNat))),.int .u32 (val a % d.toNat:Nat)])):=by
 refine Sp.vz c.mq fun _=>?_;have e0:IntKind.i64.wrap ((a.length:Int) - 1)=(a.length:Int) - 1:=i64w (by omega) (by omega);simp[g.mq,e0,go_sem];have hd0:0<d.toNat:=by
  rcases yo6 d.toNat with h|h
  ·exact absurd (zhb (by simpa using h)) hd
  ·exact h
 have hdl:=za5 d
 refine⟨by omega,zai (S:=fun x:Nat × Nat × List UInt32=>mkSt [(0,.p (.sl (ens a))),(1,.p (.int .u32 d.toNat)),(6,.own 1 0 0 a.length),(7,.p (.int .u64 x.2.1)),(8,.p (.int .i64 ((x.1:Int) - 1)))] [(1,⟨1,avs x.2.2⟩)])
  (I:=fun x=>x.2.2.length=a.length/\x.1<=a.length/\x.2.1<d.toNat/\val (a.drop x.1)=val (x.2.2.drop x.1)*d.toNat+x.2.1) (m:=fun x=>x.1) (a.length,0,List.replicate a.length 0)
  (Weak.to [0,1,6,7,8] [((11,0),1)] (by simp[go_sem])) ⟨by simp,by simp,by simpa using hd0,by simp⟩ ?_⟩
 rintro⟨k,r,q⟩ ⟨h1,h2,h3,h4⟩ R hn hr hx;simp at h1 h2 h3 h4;simp[g.ta,go_sem];refine⟨fun h=>?_,fun h=>?_⟩
 ·have e1:((k:Int) - 1).toNat=k - 1:=by omega
  have e2:IntKind.i64.wrap ((k:Int) - 1 - 1)=((k - 1:Nat):Int) - 1:=by rw[i64w (by omega) (by omega)];omega
  simp only[e1,e2];refine zae (by omega) ⟨by omega,?_⟩;have hx1:=za5 a[k - 1];have d1:a.drop (k - 1)=a[k - 1]::a.drop k:=by rw[ynv (by omega)];congr 1;rw[show k - 1+1=k by omega]
  generalize a[k - 1]=x at hx1 d1 ⊢;have ho:=z3q (r:=r) (x:=x.toNat) (k:=32) (by omega) (by omega) (by omega);simp only[show(2:Int)^32=4294967296 from rfl,show(2:Nat)^32=4294967296 from rfl]at ho;rw[ho,z61,yfb];refine⟨by omega,by omega,zae (by omega) ⟨by omega,?_⟩⟩;obtain⟨z,hz⟩:∃ z:UInt32,z.toNat=(r*4294967296+x.toNat) / d.toNat % 4294967296:=⟨_,zaw _⟩;have hq:(r*4294967296+x.toNat) / d.toNat<4294967296:=by rw[yp2 hd0];have:(r+1)*4294967296<=d.toNat*4294967296:=ylw _ h3;rw[ymg 4294967296];omega
  rw[yn8 hq]at hz;have e3:(((r*4294967296+x.toNat) / d.toNat:Nat):Int) % 4294967296=(z.toNat:Int):=by rw[hz];omega
  rw[e3];refine hn (k - 1,(r*4294967296+x.toNat) % d.toNat,q.set (k - 1) z) _ (Weak.to [0,1,6,7,8] [((1,0),1)] (by simp[go_sem])) ⟨by simp[h1],by simp;omega,by simp;exact yoe _ hd0,?_⟩ (by simp;omega);simp;have d2:(q.set (k - 1) z).drop (k - 1)=z::q.drop k:=by rw[ynv (by simp;omega)];simp;rw[show k - 1+1=k by omega,List.drop_set_of_lt (by omega)]
  rw[d1,d2,zbs,zbs,h4,hz];have e4:=ypr (r*4294967296+x.toNat) d.toNat;generalize (r*4294967296+x.toNat) / d.toNat=u at e4 ⊢;generalize (r*4294967296+x.toNat) % d.toNat=w at e4 ⊢
  grind
 ·refine hx _ _ ?_;have hk:k=0:=by omega
  subst hk;simp at h4;simp[go_sem];refine zac (zdf q) (by simp[go_sem,<- h1]) ?_;have hr':(val a / d.toNat=val q/\val a % d.toNat=r):=by
   rw[h4];constructor
   ·rw[ymg,Nat.mul_add_div hd0,yoc h3];omega
   ·rw[ymg,Nat.mul_add_mod,yn8 h3]
  simp[go_sem];rw[hr'.1];have:=hr'.2;refine⟨rfl,?_⟩;rw[<- this];omega
theorem z4q{v p r A P2 x s w u d q:Nat}(h4:v+p*r=A*P2)(e8:4294967296*u+w=x*s+r)(e9:p=d*q)(hk:P2=d*s):v+p*w+p*4294967296*u=(A+q*x)*P2:=by
 have e5:p*(4294967296*u+w)=p*(x*s+r):=by rw[e8]
 subst e9 hk;simp only[yn3,ym7,ym5,ymg,Nat.mul_left_comm]at *
 omega
theorem zrq(a:List UInt32)(k:Nat)(hl:a.length+k<=1073741824):Sp P F.fq [.sl (ens a),.int .i64 k] (.pure (.sl (ens (lb (val a*2^k))))):=by
 refine Sp.vz c.fq fun _=>?_;have e0:IntKind.i64.wrap ((k:Int) / 32)=((k / 32:Nat):Int):=by rw[i64w (by omega) (by omega)];omega
 have e1:IntKind.i64.wrap (((k / 32:Nat):Int)+a.length)=((k / 32+a.length:Nat):Int):=by rw[i64w (by omega) (by omega)];omega
 have e2:IntKind.i64.wrap (((k / 32+a.length:Nat):Int)+1)=((k / 32+a.length+1:Nat):Int):=by rw[i64w (by omega) (by omega)];omega
 simp[g.fq,go_sem];rw[e0,e1,e2]
 refine⟨⟨by omega,by omega,by omega,by omega⟩,zai (S:=fun x:Nat × Nat × List UInt32=>mkSt [(1,.p (.int .i64 k)),(5,.own 1 0 0 (k / 32+x.1)),(6,.p (.int .u64 x.2.1)),(18,.p (.sl (ens a))),(19,.p (.int .i64 a.length)),(20,.p (.int .i64 x.1))] [(1,⟨1,avs x.2.2⟩)])
  (I:=fun x=>x.2.2.length=k / 32+x.1/\x.1<=a.length/\x.2.1<2^(k % 32)/\val x.2.2+4294967296^(k / 32+x.1)*x.2.1=val (a.take x.1)*2^k) (m:=fun x=>a.length - x.1) (0,0,List.replicate (k / 32) 0)
  (Weak.to [1,5,6,18,19,20] [((17,0),1)] (by simp[go_sem];omega)) ⟨by simp,by simp,by simp;exact ymv (by omega),by simp[zeq]⟩ ?_⟩
 rintro⟨i,r,out⟩ ⟨h1,h2,h3,h4⟩ R hn hr hx;simp at h1 h2 h3 h4;simp[g.tb,go_sem];have es:((k:Int)).tmod 32=((k % 32:Nat):Int):=z61 k 32;have e4:((k % 32:Nat):Int).toNat.min 64=k % 32:=yne (by rw[ymy];omega);have hs:=zhl (s:=k % 32) (yoe _ (by omega));have hk:=zc2 k;rw[es,e4];refine⟨fun h=>zae h ⟨by omega,⟨by omega,by omega⟩,?_⟩,fun h=>?_⟩
 ·have hx1:=za5 a[i];have t1:=zb9 a i;simp[h]at t1;generalize a[i]=x at hx1 t1 ⊢;have hb:x.toNat*2^(k % 32)<=4294967295*2147483648:=yma (by omega) hs;have ho:=ycm (r:=x.toNat) (x:=r) (k:=k % 32) (by omega) h3 (by omega);rw[ho];have e5:=i64s i (by omega);obtain⟨z,hz⟩:∃ z:UInt32,z.toNat=(x.toNat*2^(k % 32)+r) % 4294967296:=⟨_,zaw _⟩;have e6:((x.toNat*2^(k % 32)+r:Nat):Int) / 4294967296=(((x.toNat*2^(k % 32)+r) / 4294967296:Nat):Int):=by omega
  have e7:((x.toNat*2^(k % 32)+r:Nat):Int) % 4294967296=(z.toNat:Int):=by rw[hz];omega
  have hlt:(x.toNat*2^(k % 32)+r) / 4294967296<2^(k % 32):=by rw[yp2 (by omega)];have:(x.toNat+1)*2^(k % 32)<=4294967296*2^(k % 32):=ylw _ (by omega);rw[ym7]at this;omega
  rw[e5,e6,e7];refine hn (i+1,(x.toNat*2^(k % 32)+r) / 4294967296,out++[z]) _ (Weak.to [1,5,6,18,19,20] [((35,0),1)] (by simp[go_sem];omega)) ⟨by simp[h1];omega,by simp;omega,by simpa using hlt,?_⟩ (by simp;omega);simp;have e8:=Nat.div_add_mod (x.toNat*2^(k % 32)+r) 4294967296;rw[zep,h1,hz,t1,show k / 32+(i+1)=k / 32+i+1 by omega,Nat.pow_succ];have e9:4294967296^(k / 32+i)=4294967296^(k / 32)*4294967296^i:=Nat.pow_add _ _ _;generalize (x.toNat*2^(k % 32)+r) / 4294967296=u at *
  generalize (x.toNat*2^(k % 32)+r) % 4294967296=w at *
  exact z4q h4 e8 e9 hk
 ·refine hx _ _ ?_;have hi:i=a.length:=by omega
  subst hi;simp[go_sem];obtain⟨z,hz⟩:∃ z:UInt32,z.toNat=r % 4294967296:=⟨_,zaw _⟩;have e7:(r:Int) % 4294967296=(z.toNat:Int):=by rw[hz];omega
  rw[e7];refine⟨⟨by omega,by omega⟩,zac (zdf (out++[z])) (zb3 (zds rfl (by simp[go_sem]) (by simp[h1])) zcy) ?_⟩;simp[go_sem];rw[zep,hz,h1];rw[ym4]at h4;rw[yn8 (by omega),h4]
theorem z7y(a:List UInt32)(k:Nat)(hl:a.length<=1073741824)(hk:k<4294967296):Sp P F.mw [.sl (ens a),.int .i64 k] (.pure (.sl (ens (lb (val a / 2^k))))):=by
 refine Sp.vz c.mw fun _=>?_;obtain⟨q,hq⟩:∃ q,k / 32=q:=⟨_,rfl⟩;obtain⟨s,hs⟩:∃ s,k % 32=s:=⟨_,rfl⟩;have e0:IntKind.i64.wrap ((k:Int) / 32)=(q:Int):=by rw[i64w (by omega) (by omega)];omega
 simp[g.mw,go_sem];rw[e0];obtain⟨A,hA⟩:∃ A,A=val (a.drop q) / 2^s:=⟨_,rfl⟩
 refine zai (S:=fun x:Nat × List UInt32=>mkSt [(0,.p (.sl (ens a))),(1,.p (.int .i64 k)),(5,.own 1 0 0 x.1),(6,.p (.int .i64 ((q:Int)+x.1)))] [(1,⟨1,avs x.2⟩)])
  (I:=fun x=>x.2.length=x.1/\(q+x.1<=a.length\/x.1=0)/\val x.2=A % 4294967296^x.1) (m:=fun x=>a.length - (q+x.1)) (0,[]) (Weak.nl 5 1 1 rfl (Weak.to [0,1,5,6] [((1,0),1)] (by simp[go_sem]))) ⟨rfl,by simp,by simp[Nat.mod_one]⟩ ?_
 rintro⟨j,out⟩ ⟨h1,h2,h3⟩ R hn hr hx;simp at h1 h2 h3;simp[g.td,go_sem];have es:((k:Int)).tmod 32=(s:Int):=by rw[<- hs];exact z61 k 32
 have e4:s.min 64=s:=yne (by omega);have hs2:=zhl (s:=s) (by omega);refine⟨fun h=>?_,fun h=>?_⟩
 ·have ew:IntKind.i64.wrap ((q:Int)+j+1)=(q:Int)+j+1:=by rw[i64w (by omega) (by omega)]
  have ei:((q:Int)+j+1).toNat=q+j+1:=by omega
  have ei':((q:Int)+j).toNat=q+j:=by omega
  rw[ew];refine zac (zk7 _ _ (by omega)) rfl ?_;simp[go_sem];refine zac (zk7 _ _ (by omega)) rfl ?_;simp[go_sem];rw[es,ei,ei',i64w (by omega) (by omega)];have d1:=zio a (q+j);have d2:=zio a (q+j+1);have u1:=za5 (a.getD (q+j) 0);have u2:=za5 (a.getD (q+j+1) 0);simp only[ylr]at d1 d2 u1 u2;generalize (a[q+j]?.getD 0).toNat=x at d1 u1 ⊢;generalize (a[q+j+1]?.getD 0).toNat=y at d2 u2 ⊢;have ho:=z3q (r:=y) (x:=x) (k:=32) (by omega) (by omega) (by omega);simp only[show(2:Int)^32=4294967296 from rfl,show(2:Nat)^32=4294967296 from rfl]at ho;rw[ho,ymy,e4];obtain⟨z,hz⟩:∃ z:UInt32,z.toNat=(y*4294967296+x) / 2^s % 4294967296:=⟨_,zaw _⟩;have e7:((y*4294967296+x:Nat):Int) / 2^s % 4294967296=(z.toNat:Int):=by rw[hz];simp
  rw[e7];refine⟨by omega,by omega,hn (j+1,out++[z]) _ (Weak.to [0,1,5,6] [((30,0),1)] (by simp[go_sem,h1];omega)) ⟨by simp[h1],by simp;omega,?_⟩ (by simp;omega)⟩;simp;have ed:A / 4294967296^j=val (a.drop (q+j)) / 2^s:=by rw[hA,yp1,ymg,<- Nat.div_div_eq_div_mul,zqo,ynd]
  rw[zep,h1,h3,hz,Nat.mod_pow_succ,ed,d1,d2,zvh _ _ _ _ (by omega)]
 ·refine hx _ _ ?_;simp[go_sem];refine zac (zdf out) (zb3 (zds rfl rfl h1.symm) zcy) ?_;simp[go_sem];have:val a / 2^k=A:=by rw[zc2 k,hq,hs,<- Nat.div_div_eq_div_mul,zqo,hA]
  rw[this,h3,yn8];have h5:=zcg (a.drop q);rw[yoy]at h5;refine yml (hA ▸ yoo _ _) (ylu h5 (ymn (by omega) (by omega)))
open Enc (enc)
def idxI{α : Type}(p : α -> Bool)(l:List α):Int:=match l.findIdx? p with|some i=>i|none => -1
section
variable {α : Type} {p : α -> Bool} {l:List α}
theorem znz(h:∀ x∈l,p x=false):idxI p l = -1:=by unfold idxI;rw[yqt.2 h]
theorem zwc{k:Nat}(hk:k<l.length)(h:∀ x∈l.take k,p x=false)(h2:p l[k]=true):idxI p l=k:=by
 unfold idxI;have:l.findIdx? p=some k:=by rw[yqu];refine⟨hk,h2,fun j hj=>?_⟩;have:=h l[j] (by rw[List.mem_take_iff_getElem];exact⟨j,by omega,rfl⟩);simp[this]
 rw[this]
theorem zny:(decide (0<=idxI p l))=l.any p:=by
 unfold idxI;cases h:l.findIdx? p with
 | none =>
  have:=yqt.1 h;simp;exact fun x hx=>this x hx
 | some i =>
  obtain⟨h1,h2,_⟩:=yqu.1 h;simp;exact⟨l[i],yl4 _,h2⟩
end
theorem zgt(st:St)(l:List PV):(l.map AV.p).mapM (toPV st FUEL)=some l:=z4h 5 st l
theorem Sp.nilcase{P:Program}{f:FuncId}{r:RV}(h1:Sp P f [.nl] r)(h2:Sp P f [.sle] r):Sp P f [.sl []] r:=by
 refine⟨h1.1,fun w M vals hM hv=>?_⟩;cases hv with
 | cons _ x _ xs hx hxs =>
  cases hxs;cases hx with
  | sl0 a cap =>
   cases a with
   | none=>exact h1.2 w M _ hM (.cons _ _ _ _ (.nl cap) .nil)
   | some a=>exact h2.2 w M _ hM (.cons _ _ _ _ (.sle a cap) .nil)
  | sl _ b o cap=>exact h2.2 w M _ hM (.cons _ _ _ _ (.sle _ cap) .nil)
end Go.Ab
namespace Go.Ab
open Enc (enc)
attribute [local go_sem] zal Opd.slots
def zdk(n:Nat):Nat:=if n=0 then 0 else Nat.log2 n+1
def len8:List UInt8:=[0,1,2,2,3,3,3,3,4,4,4,4,4,4,4,4,5,5,5,5,5,5,5,5,5,5,5,5,5,5,5,5,6,6,6,6,6,6,6,6,6,6,6,6,6,6,6,6,6,6,6,6,6,6,6,6,6,6,6,6,6,6,6,6,7,7,7,7,7,7,7,7,7,7,7,7,7,7,7,7,7,7,7,7,7,7,7,7,7,7,7,7,7,7,7,7,7,7,7,7,7,7,7,7,7,7,7,7,7,7,7,7,7,7,7,7,7,7,7,7,7,7,7,7,7,7,7,7]++List.replicate 128 8
theorem z8x:∀ n,n<256->len8[n]?=some (UInt8.ofNat (zdk n)):=by decide +kernel
theorem zik{n m:Nat}:zdk n<=m ↔ n<2^m:=by
 unfold zdk;split
 ·rename_i h;subst h;simp[Nat.two_pow_pos]
 ·rename_i h;rw[<- Nat.log2_lt h];omega
theorem zkb{n k:Nat}(h:2^k<=n):zdk n=k+zdk (n / 2^k):=by
 have key:∀ m,zdk n<=m ↔ k+zdk (n / 2^k)<=m:=by
  intro m;rw[zik];by_cases hm:k<=m
  ·have:k+zdk (n / 2^k)<=m ↔ zdk (n / 2^k)<=m - k:=by omega
   rw[this,zik,yp2 (Nat.two_pow_pos k),<- Nat.pow_add,Nat.sub_add_cancel hm]
  ·have:2^m<=2^k:=ymn (by omega) (by omega);constructor
   ·intro h2;omega
   ·intro h2;omega
 have h1:=(key (zdk n)).1 (yl8 _);have h2:=(key (k+zdk (n / 2^k))).2 (yl8 _);omega
theorem ycw(n:Nat)(h:n<256):∃ b:UInt8,len8[n]?=some b/\b.toNat=zdk n:=by refine⟨_,z8x n h,?_⟩;have:zdk n<=8:=zik.2 (by omega);simp[UInt8.toNat_ofNat'];omega
theorem zyl:(bya [0,1,2,2,3,3,3,3,4,4,4,4,4,4,4,4,5,5,5,5,5,5,5,5,5,5,5,5,5,5,5,5,6,6,6,6,6,6,6,6,6,6,6,6,6,6,6,6,6,6,6,6,6,6,6,6,6,6,6,6,6,6,6,6,7,7,7,7,7,7,7,7,7,7,7,7,7,7,7,7,7,7,7,7,7,7,7,7,7,7,7,7,7,7,7,7,7,7,7,7,7,7,7,7,7,7,7,7,7,7,7,7,7,7,7,7,7,7,7,7,7,7,7,7,7,7,7,7,8,8,8,8,8,8,8,8,8,8,8,8,8,8,8,8,8,8,8,8,8,8,8,8,8,8,8,8,8,8,8,8,8,8,8,8,8,8,8,8,8,8,8,8,8,8,8,8,8,8,8,8,8,8,8,8,8,8,8,8,8,8,8,8,8,8,8,8,8,8,8,8,8,8,8,8,8,8,8,8,8,8,8,8,8,8,8,8,8,8,8,8,8,8,8,8,8,8,8,8,8,8,8,8,8,8,8,8,8,8,8,8,8,8,8,8,8,8,8,8,8,8,8,8,8,8,8,8]).data.toList=len8:=by decide +kernel
theorem z4p(x:UInt32):Sp P F.ft [.int .u32 x.toNat] (.pure (.int .i64 (zdk x.toNat))):=by
 have hx:=x.toNat_lt;generalize x.toNat=n at *
 have fin:∀ (m k:Nat),m<256->zdk n=k+zdk m->∀ (z:Int),z=m->∃ e,len8[z.toNat]?=some e/\(0<=z)/\IntKind.i64.wrap (e.toNat:Int)=e.toNat/\∀ k':Int,k'=k->IntKind.i64.wrap (k'+e.toNat)=(zdk n:Nat):=by intro m k hm hk z hz;subst hz;obtain⟨b,h1,h2⟩:=ycw m hm;have:zdk m<=8:=zik.2 (by omega);have hn:zdk n<=32:=zik.2 (by omega);exact⟨b,by simpa using h1,by omega,i64w (by omega) (by omega),fun k' hk'=>by rw[i64w (by omega) (by omega)];omega⟩
 refine Sp.vz c.ft fun _=>?_;simp[g.ft,go_sem,zyl];refine⟨fun h1=>⟨fun h2=>?_,fun h2=>?_⟩,fun h1=>⟨fun h2=>?_,fun h2=>?_⟩⟩
 ·have e1:zdk n=24+zdk (n / 65536 / 256):=by have a1:=zkb (n:=n) (k:=16) (by omega);have a2:=zkb (n:=n / 2^16) (k:=8) (by omega);simp only[Nat.reducePow]at a1 a2;omega
  obtain⟨e,h3,h4,h5,h6⟩:=fin (n / 65536 / 256) 24 (by omega) e1 ((n:Int) / 65536 / 256 % 256) (by omega);rw[zbx];refine⟨e,h3,?_⟩;have e24:IntKind.i64.wrap 24=24:=i64w (by omega) (by omega);simp[go_sem,h4,e24,h5,h6 24 rfl]
 ·have e1:zdk n=16+zdk (n / 65536):=zkb (n:=n) (k:=16) (by omega);obtain⟨e,h3,h4,h5,h6⟩:=fin (n / 65536) 16 (by omega) e1 ((n:Int) / 65536 % 256) (by omega);rw[zbx];refine⟨e,h3,?_⟩;simp[go_sem,h4,h5,h6 16 rfl]
 ·have e1:zdk n=8+zdk (n / 256):=zkb (n:=n) (k:=8) (by omega);obtain⟨e,h3,h4,h5,h6⟩:=fin (n / 256) 8 (by omega) e1 ((n:Int) / 256 % 256) (by omega);rw[zbx];refine⟨e,h3,?_⟩;have e8:IntKind.i64.wrap 8=8:=i64w (by omega) (by omega);simp[go_sem,h4,e8,h5,h6 8 rfl]
 ·obtain⟨e,h3,h4,h5,h6⟩:=fin n 0 (by omega) (by omega) ((n:Int) % 256) (by omega);have h7:=h6 0 rfl;rw[Int.zero_add,h5]at h7;have hn:zdk n<=32:=zik.2 (by omega);have h8:IntKind.i64.wrap ((zdk n:Nat):Int)=(zdk n:Nat):=i64w (by omega) (by omega);rw[zbx];refine⟨e,h3,?_⟩;simp[go_sem,h4,h5,h7,h8]
theorem z86(l:List Int)(f:FuncId)(caps:List PV)(p:Int->Bool)(hl:l.length<=4611686018427387904)(hf:∀ x∈l,Sp P f (enc x::caps) (.pure (.bool (p x)))) :
  Sp P F.lr [.sl (ens l),.fn f caps] (.pure (.int .i64 (idxI p l))):=by
 refine Sp.vz c.lr fun _=>?_;simp[g.lr,go_sem]
 refine zai (S:=fun k:Nat=>mkSt [(0,.p (.sl (ens l))),(1,.p (.fn f caps)),(7,.p (.int .i64 l.length)),(8,.p (.int .i64 k))] []) (I:=fun k=>k<=l.length/\∀ x∈l.take k,p x=false) (m:=fun k=>l.length - k) 0
  (Weak.to [0,1,7,8] [] (by simp[go_sem])) ⟨by omega,by simp⟩ ?_
 rintro k ⟨h1,h2⟩ R hn hr hx;have e1:=i64s k (by omega);simp[g.sa,mkSt,go_sem];refine⟨fun hk=>?_,fun hk=>hx _ _ ?_⟩
 ·refine zae hk ?_
  try simp[go_sem]
  refine zaa (hf l[k] (yl4 hk)) (zb3 rfl (zgt _ _)) ?_;rcases ym0 (p l[k])with h3|h3
  ·simp[h3,go_sem];refine hr _ ?_;simp[go_sem,zwc hk h2 h3]
  ·simp[h3,e1,go_sem];refine hn (k+1) _ (Weak.to [0,1,7,8] [] (by simp[go_sem])) ⟨by omega,fun x hx=>?_⟩ (by omega);rw[yls hk]at hx;rcases ylp.1 hx with hx|hx
   ·exact h2 x hx
   ·simp at hx;rw[hx];exact h3
 ·have:k=l.length:=by omega
  subst this;simp[go_sem,znz (p:=p) (l:=l) (by simpa using h2)]
theorem yc9(l:List Int)(f:FuncId)(caps:List PV)(p:Int->Bool)(hl:l.length<=4611686018427387904)(hf:∀ x∈l,Sp P f (enc x::caps) (.pure (.bool (p x)))) :
  Sp P F.kq [.sl (ens l),.fn f caps] (.pure (.bool (l.any p))):=by
 refine Sp.vz c.kq fun _=>?_;simp[g.kq,go_sem];refine zaa (z86 l f caps p hl hf) rfl ?_;simp[go_sem,zny]
theorem zsf(l:List UInt32)(hl:l.length<=2147483648):Sp P F.bl [.sl (ens l)] (.pure (.sl (ens l))):=by
 cases l with
 | nil =>
  refine Sp.nilcase ?_ ?_
  ·refine Sp.vz c.bl fun _=>?_;simp[g.bl,go_sem]
  ·refine Sp.vz c.bl fun _=>?_;simp[g.bl,go_sem,LIM]
 | cons x l =>
  refine Sp.vz c.bl fun _=>?_;simp at hl;simp[g.bl,go_sem,LIM,hl]
theorem z0w(l:List Int)(hl:l.length<=2147483648):Sp P F.bp [.sl (ens l)] (.pure (.sl (ens l))):=by
 cases l with
 | nil =>
  refine Sp.nilcase ?_ ?_
  ·refine Sp.vz c.bp fun _=>?_;simp[g.bp,go_sem]
  ·refine Sp.vz c.bp fun _=>?_;simp[g.bp,go_sem,LIM]
 | cons x l =>
  refine Sp.vz c.bp fun _=>?_;simp at hl;simp[g.bp,go_sem,LIM,hl]
end Go.Ab
namespace Go.Ab
def blen(n:Nat):Nat:=if n=0 then 0 else Nat.log2 n+1
theorem z6b{x:Nat}(h:x<4294967296):blen x<=32:=by
 unfold blen;split
 ·omega
 ·have:=(Nat.log2_lt (n:=x) (k:=32) (by assumption)).2 h;omega
theorem yaa{x:Nat}(h:x≠0):1<=blen x:=by unfold blen;rw[yl1 h];omega
theorem z8y(x:UInt32):Sp P F.ft [.int .u32 x.toNat] (.pure (.int .i64 (blen x.toNat))):=z4p x
theorem zlq(l:List UInt32)(hl:l.length<=2147483648):Sp P F.bl [.sl (ens l)] (.pure (.sl (ens l))):=zsf l hl
end Go.Ab
