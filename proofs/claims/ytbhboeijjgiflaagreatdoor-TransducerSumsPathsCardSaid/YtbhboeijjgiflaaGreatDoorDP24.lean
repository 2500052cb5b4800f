/-
Proofs for the law TransducerSumsPaths, part 24. Conditions: none.
-/
import Derived.Test.YtbhboeijjgiflaaGreatDoorDP23
set_option maxRecDepth 100000
set_option maxHeartbeats 4000000
set_option linter.all false
namespace Go.Ab
def val:List UInt32->Nat
 | []=>0
 | x::l=>x.toNat+4294967296*val l
def lb(n:Nat):List UInt32:=if h:n=0 then[]else UInt32.ofNat n::lb (n / 4294967296)
termination_by n
decreasing_by omega
theorem za7(x:UInt32):x.toNat<4294967296:=x.toNat_lt
theorem zaw(n:Nat):(UInt32.ofNat n).toNat=n % 4294967296:=by simp[UInt32.toNat_ofNat']
theorem zg9{x y:UInt32}(h:x.toNat=y.toNat):x=y:=UInt32.toNat_inj.1 h
@[simp] theorem z1q:val []=0:=rfl
@[simp] theorem zbr(x:UInt32)(l:List UInt32):val (x::l)=x.toNat+4294967296*val l:=rfl
@[simp] theorem ydr:lb 0=[]:=by rw[lb];simp
theorem zln{n:Nat}(h:n≠0):lb n=UInt32.ofNat n::lb (n / 4294967296):=by rw[lb];simp[h]
@[simp] theorem zpf(n:Nat):val (lb n)=n:=by
 induction n using Nat.strongRecOn with
 | ind n ih =>
  by_cases h:n=0
  ·subst h;simp
  ·rw[zln h,zbr,zaw,ih _ (by omega)];omega
theorem zpg(l r:List UInt32):val (l++r)=val l+4294967296^l.length*val r:=by
 induction l with
 | nil=>simp
 | cons x l ih=>rw[yoy,zbr,ih,zbr,yo8,ymx];rw[yo1,ynd _ 4294967296,yn3];omega
theorem zcj(l:List UInt32):val l<4294967296^l.length:=by
 induction l with
 | nil=>simp
 | cons x l ih=>rw[zbr,yo8,ymx];have:=za7 x;omega
theorem zeq(n:Nat):val (List.replicate n 0)=0:=by
 induction n with
 | zero=>rfl
 | succ n ih=>rw[ypm,zbr,ih];rfl
theorem zcd(l:List UInt32)(i:Nat):val (l.take (i+1))=val (l.take i)+4294967296^i*(l.getD i 0).toNat:=by
 induction l generalizing i with
 | nil=>simp
 | cons x l ih =>
  cases i with
  | zero=>simp
  | succ i=>simp only[yqk,zbr,ih,List.getD_cons_succ,ymx];rw[yo1,ynd (4294967296^i) 4294967296,yn3];omega
theorem zd2(l:List UInt32){i:Nat}(h:l.length<=i):val (l.take i)=val l:=by rw[ymq h]
theorem zep(l:List UInt32)(x:UInt32):val (l++[x])=val l+4294967296^l.length*x.toNat:=by rw[zpg];simp
theorem zqv(l:List UInt32)(i:Nat)(x:UInt32)(h:i<l.length):val (l.set i x)+4294967296^i*(l.getD i 0).toNat=val l+4294967296^i*x.toNat:=by
 induction l generalizing i with
 | nil=>simp at h
 | cons y l ih =>
  cases i with
  | zero=>simp;omega
  | succ i =>
   have:=ih i (by simpa using h);simp only[List.set_cons_succ,zbr,List.getD_cons_succ,Nat.pow_succ];rw[Nat.mul_comm (4294967296^i) 4294967296,Nat.mul_assoc,Nat.mul_assoc];omega
theorem zw8(l:List UInt32)(i:Nat):val l=val (l.take i)+4294967296^(min i l.length)*val (l.drop i):=by
 conv=>lhs;rw[<- List.take_append_drop i l]
 rw[zpg,yns]
theorem zqw(l:List UInt32)(i:Nat):val l / 4294967296^i=val (l.drop i):=by
 rcases ynk l.length i with h|h
 ·rw[yq9 (by omega)];refine ypc (ymp (zcj l) (ynl (by omega) (by omega)))
 ·have:=zw8 l i;rw[yod h]at this;rw[this,yra _ _ (ynj (by omega))];have h2:=zcj (l.take i);rw[yns,yod h]at h2;rw[ypc h2];omega
theorem zgi(l:List UInt32)(i:Nat):(l.getD i 0).toNat=val l / 4294967296^i % 4294967296:=by
 rw[zqw];rcases ynk i l.length with h|h
 ·rw[yos h,zbr];simp[h]
 ·rw[yq9 h];simp[ynu h]
def zbp(l:List UInt32):Prop:=l.getLast?≠some 0
theorem zcr:∀ {l:List UInt32},zbp l->lb (val l)=l
 | [],_=>by simp
 | x::l,h=>by
  have hl:zbp l:=by
   cases l with
   | nil=>simp[zbp]
   | cons y r=>simpa[zbp]using h
  have ih:=zcr hl;have hne:val (x::l)≠0:=by
   intro h0;simp only[zbr]at h0;have hx:x=0:=zg9 (by simp;omega);have hv:val l=0:=by omega
   rw[hv]at ih;simp at ih;subst hx;subst ih;simp[zbp]at h
  rw[zln hne];have h1:UInt32.ofNat (val (x::l))=x:=zg9 (by rw[zaw,zbr];have:=za7 x;omega);have h2:val (x::l) / 4294967296=val l:=by rw[zbr];have:=za7 x;omega
  rw[h1,h2,ih]
theorem zbv(n:Nat):zbp (lb n):=by
 induction n using Nat.strongRecOn with
 | ind n ih =>
  by_cases h:n=0
  ·subst h;simp[zbp]
  ·rw[zln h];have:=ih (n / 4294967296) (by omega);by_cases h2:n / 4294967296=0
   ·rw[h2];simp only[ydr,zbp,List.getLast?_singleton,ne_eq,ym4];intro h3;have:=congrArg UInt32.toNat h3;rw[zaw]at this;simp at this;omega
   ·rw[zln h2]at this ⊢;simpa[zbp]using this
@[simp] theorem ye0(n:Nat):lb n=[] ↔ n=0:=⟨fun h=>by have:=congrArg val h;simpa using this,fun h=>by subst h;simp⟩
theorem zav{n k:Nat}(h:n<4294967296^k):(lb n).length<=k:=by
 induction k generalizing n with
 | zero=>simp at h;subst h;simp
 | succ k ih =>
  by_cases h0:n=0
  ·subst h0;simp
  ·rw[zln h0,yo8];have:=@ih (n / 4294967296) (by rw[ymx]at h;omega);omega
theorem znz:lb 1=[1]:=by rw[zln (by omega)];simp
theorem zkz{n:Nat}(h:n≠0):0<(lb n).length:=by rw[zln h];simp
theorem zn0{n:Nat}(h:n≠0):4294967296^((lb n).length - 1)<=n:=by
 induction n using Nat.strongRecOn with
 | ind n ih =>
  rw[zln h,yo8,yqh];by_cases h2:n / 4294967296=0
  ·rw[h2];simp;omega
  ·have:=ih _ (by omega) h2;have hp:=zkz h2;have e:(lb (n / 4294967296)).length=(lb (n / 4294967296)).length - 1+1:=by omega
   rw[e,ymx];omega
def cmpN(m n:Nat):Int:=if m<n then -1 else if m=n then 0 else 1
theorem zgw(l:List UInt32)(i:Nat):val l / 4294967296^i=4294967296*(val l / 4294967296^(i+1))+(l.getD i 0).toNat:=by rw[zgi,ymx,<- Nat.div_div_eq_div_mul];omega
theorem zgj(l:List UInt32){i:Nat}(h:l.length<=i):val l / 4294967296^i=0:=by rw[zqw,yq9 h];rfl
theorem zka{m n k:Nat}(h:m / k<n / k):m<n:=by apply Nat.lt_of_not_le;intro h2;have:=Nat.div_le_div_right (c:=k) h2;omega
theorem zqz{l:List UInt32}{i:Nat}{x:UInt32}(h:i<l.length):(l.set i x).take (i+1)=l.take i++[x]:=by rw[List.take_succ_eq_append_getElem (by simpa using h)];simp[List.take_set_of_le]
theorem zsz{l:List UInt32}{i:Nat}{x:UInt32}(h:i<l.length):val ((l.set i x).take (i+1))=val (l.take i)+4294967296^i*x.toNat:=by rw[zqz h,zep,yns,yod (by omega)]
theorem zik{l:List UInt32}{n:Nat}(h:val l<4294967296^n):val (l.take n)=val l:=by
 rcases ynk n l.length with hn|hn
 ·have h1:=zw8 l n;rw[yod (by omega)]at h1;have:val (l.drop n)=0:=by apply yrq;intro h2;have:=yr3 (4294967296^n) h2;omega
  rw[this]at h1;omega
 ·rw[zd2 _ hn]
theorem zph{v v' p q B sum o x y d r A T:Nat}(hv:v'+p*q*o=v+p*q*r)(hk:v+p*q*sum=A+p*x*T)(e4:B*d+r=sum+(o+x*y)) :
  v'+p*(q*B)*d=A+p*x*(T+q*y):=by
 have e5:p*q*(B*d+r)=p*q*(sum+(o+x*y)):=by rw[e4]
 simp only[yo1,yn7,yn3,ynd,Nat.mul_left_comm]at *
 omega
theorem zc4(k:Nat):2^k=4294967296^(k / 32)*2^(k % 32):=by have:(4294967296:Nat)=2^32:=rfl;rw[this,<- Nat.pow_mul,<- Nat.pow_add];congr 1;omega
theorem zhl{s:Nat}(h:s<32):2^s<=2147483648:=ynl (n:=2) (by omega) (show s<=31 by omega)
theorem zvf(x y r s:Nat)(hs:s<32):(x+4294967296*(y+4294967296*r)) / 2^s % 4294967296=(y*4294967296+x) / 2^s % 4294967296:=by
 have h:2^s*2^(32 - s)=4294967296:=by rw[<- Nat.pow_add,show s+(32 - s)=32 by omega]
 have e:x+4294967296*(y+4294967296*r)=(y*4294967296+x)+2^s*(4294967296*(2^(32 - s)*r)):=by rw[<- Nat.mul_assoc (2^s),ynd (2^s) 4294967296,yn3,<- Nat.mul_assoc (2^s),h,yo1];omega
 rw[e,yra _ _ (ynj (by omega)),yrr]
theorem zil(l:List UInt32)(i:Nat):val (l.drop i)=(l.getD i 0).toNat+4294967296*val (l.drop (i+1)):=by
 rcases ynk i l.length with h|h
 ·rw[yos h,zbr];simp[h]
 ·rw[yq9 h,yq9 (by omega)];simp[ynu h]
theorem ziy(n:Nat):n<4294967296^(lb n).length:=by have:=zcj (lb n);simpa using this
theorem z9d{U V i L:Nat}(hL:4294967296^(L - 1)<=V)(hL0:0<L)(hU:U<V*4294967296^(i+1)) :
  U / (V*4294967296^i)<=min (U / 4294967296^(i+L - 1) / (V / 4294967296^(L - 1))) 4294967295:=by
 have hp:∀ k,0<4294967296^k:=fun k=>ynj (by omega);have hV:0<V:=ymp (hp _) hL;refine Nat.le_min.2 ⟨?_,?_⟩
 ·have ht:0<V / 4294967296^(L - 1):=Nat.div_pos hL (hp _);rw[yrb ht,yrb (hp _)];have h1:U / (V*4294967296^i)*(V*4294967296^i)<=U:=Nat.div_mul_le_self _ _;have h2:V / 4294967296^(L - 1)*4294967296^(L - 1)<=V:=Nat.div_mul_le_self _ _;have e:i+L - 1=(L - 1)+i:=by omega
  rw[e,ymt];generalize U / (V*4294967296^i)=d at *
  have h3:d*(V / 4294967296^(L - 1)*4294967296^(L - 1))<=d*V:=yo5 _ h2;have h4:=ymu (4294967296^i) h3;simp only[yn3]at *
  omega
 ·have:U / (V*4294967296^i)<4294967296:=by rw[yq1 (yoz hV (hp _))];rw[ymx]at hU;rw[ynd 4294967296,yn3];exact hU
  omega
theorem zzp{U n:Nat}(h:U<4294967296^(n+2)):((lb U).getD (n+1) 0).toNat*4294967296+((lb U).getD n 0).toNat=U / 4294967296^n:=by
 have h1:=zgi (lb U) (n+1);have h2:=zgi (lb U) n;have e:U / 4294967296^(n+1)=U / 4294967296^n / 4294967296:=by rw[ymx,yq0]
 have e2:U / 4294967296^n<4294967296*4294967296:=by
  rw[yq1 (ynj (by omega))];have:4294967296^(n+2)=4294967296*4294967296*4294967296^n:=by rw[ymt,ynd]
  omega
 rw[zpf]at h1 h2;rw[h1,h2,e];generalize U / 4294967296^n=x at *
 omega
theorem z1r{V:Nat}(hV:V≠0):((lb V).getD ((lb V).length - 1) 0).toNat=V / 4294967296^((lb V).length - 1)/\0<V / 4294967296^((lb V).length - 1):=by
 have h1:=zgi (lb V) ((lb V).length - 1);rw[zpf]at h1;have h2:=ziy V;have h3:=zkz hV;constructor
 ·rw[h1,yoa];rw[yq1 (ynj (by omega)),ynd,<- Nat.pow_succ,Nat.succ_eq_add_one,show(lb V).length - 1+1=(lb V).length by omega];exact h2
 ·exact Nat.div_pos (zn0 hV) (ynj (by omega))
theorem ya0(i:Nat):2^(32*i)=4294967296^i:=by rw[yqp]
theorem zig{m n:Nat}:cmpN m n<0 ↔ m<n:=by unfold cmpN;split<;>(try split)<;>omega
theorem zdw{m n:Nat}:0<=cmpN m n ↔ n<=m:=by unfold cmpN;split<;>(try split)<;>omega
theorem zhz{m n:Nat}:cmpN m n=0 ↔ m=n:=by unfold cmpN;split<;>(try split)<;>omega
theorem zlb(a:List UInt32)(i:Int)(h:0<=i):Sp P F.bj [.sl (ens a),.int .i64 i] (.pure (.int .u64 (a.getD i.toNat 0).toNat)):=by
 refine Sp.vz c.bj fun _=>?_;simp[g.bj,go_sem];refine⟨fun h1=>zae (by omega) ⟨h,?_⟩,fun h1=>?_⟩
 ·have:i.toNat<a.length:=by omega
  simp[*]
 ·have:a.length<=i.toNat:=by omega
  simp[this]
theorem zdg(a:List UInt32):Sp P F.au [.sl (ens a)] (.pure (.sl (ens (lb (val a))))):=by
 refine Sp.vz c.au fun hs=>?_;have hl:=znl hs.1;simp[g.au,go_sem];refine zai (S:=fun l:List UInt32=>mkSt [(0,.p (.sl (ens l)))] []) (I:=fun l=>val l=val a/\l.length<=9223372036854775807) (m:=fun l=>l.length) a (Weak.of (keep:=[0]) (ids:=[]) rfl) ⟨rfl,hl⟩ ?_;rintro l ⟨h1,h2⟩ R hn hr hx;have e:IntKind.i64.wrap (↑l.length - 1) = ↑l.length - 1:=i64w (by omega) (by omega);have e2:((l.length:Int) - 1).toNat=l.length - 1:=by omega
 simp[g.rz,mkSt,e,e2,go_sem];have out:zbp l->R (Exit.exit 0) ⟨[(0,.p (.sl (ens l)))],[(DEAD,[none])]⟩:=fun hc=>by refine hx _ _ ?_;simp[go_sem];rw[<- h1,zcr hc]
 refine⟨fun h=>zae (by omega) ⟨by omega,fun h0=>⟨by omega,hn (l.take (l.length - 1)) _ (Weak.of (keep:=[0]) (ids:=[]) rfl) ?_ ?_⟩,fun h0=>out ?_⟩,fun h=>out ?_⟩
 ·refine⟨?_,by simp;omega⟩;have h3:l=l.take (l.length - 1)++[0]:=by
   conv=>lhs;rw[<- List.take_append_getLast l (by intro h4;simp[h4]at h)]
   rw[List.getLast_eq_getElem,zg9 (x:=l[l.length - 1]) (y:=0) (by simpa using h0)]
  rw[h3,zep]at h1;simpa using h1
 ·simp;omega
 ·intro h4;rw[List.getLast?_eq_getElem?,yms (by omega)]at h4;simp at h4;rw[h4]at h0;exact h0 rfl
 ·subst h;simp[zbp]
theorem zoo(a b:List UInt32):Sp P F.c9 [.sl (ens a),.sl (ens b)] (.pure (.int .i64 (cmpN (val a) (val b)))):=by
 refine Sp.vz c.c9 fun hs=>?_;have hl:=znl hs.1;have hl2:=znl hs.2.1;simp[g.c9,go_sem];have e:IntKind.i64.wrap ((if a.length<b.length then(b.length:Int)else a.length) - 1)=((max a.length b.length:Nat):Int) - 1:=by rw[i64w (by split<;>omega) (by split<;>omega)];split<;>omega
 simp only[e];refine zai (S:=fun k:Nat=>mkSt [(0,.p (.sl (ens a))),(1,.p (.sl (ens b))),(5,.p (.int .i64 ((k:Int) - 1)))] []) (I:=fun k=>k<=max a.length b.length/\val a / 4294967296^k=val b / 4294967296^k) (m:=fun k=>k) (max a.length b.length) (Weak.of (keep:=[0,1,5]) (ids:=[]) rfl) ⟨ym8 _,by rw[zgj _ (by omega),zgj _ (by omega)]⟩ ?_;rintro k ⟨h1,h2⟩ R hn hr hx;simp[g.ro,mkSt,go_sem];refine⟨fun hk=>?_,fun hk=>?_⟩
 ·refine zac (zlb _ _ (by omega)) rfl ?_;simp[go_sem];refine zac (zlb _ _ (by omega)) rfl ?_;simp[go_sem];have e2:((k:Int) - 1).toNat=k - 1:=by omega
  have e3:IntKind.i64.wrap ((k:Int) - 1 - 1)=((k - 1:Nat):Int) - 1:=by rw[i64w (by omega) (by omega)];omega
  have d1:=zgw a (k - 1);have d2:=zgw b (k - 1);rw[show k - 1+1=k by omega]at d1 d2;have u1:=za7 (a.getD (k - 1) 0);have u2:=za7 (b.getD (k - 1) 0);simp only[ymo]at d1 d2 u1 u2;simp only[e2,e3];generalize (a[k - 1]?.getD 0).toNat=x at d1 u1 ⊢;generalize (b[k - 1]?.getD 0).toNat=y at d2 u2 ⊢;refine⟨fun heq=>hn (k - 1) _ (Weak.of (keep:=[0,1,5]) (ids:=[]) rfl) ⟨by omega,by omega⟩ (by omega),fun hne=>hr _ ?_⟩;simp[go_sem];have hlt:val a / 4294967296^(k - 1)<val b / 4294967296^(k - 1)\/val b / 4294967296^(k - 1)<val a / 4294967296^(k - 1):=by omega
  simp only[wrap_i64];rcases hlt with h|h
  ·have:=zka h;rw[cmpN,ym0 this];omega
  ·have:=zka h;rw[cmpN,ym1 (by omega),ym1 (by omega)];omega
 ·refine hx _ _ ?_;simp[go_sem];have:k=0:=by omega
  subst this;simp at h2;simp[cmpN,h2]
theorem ycu(a b:List UInt32)(hl:a.length<=1073741824)(hl2:b.length<=1073741824):Sp P F.l9 [.sl (ens a),.sl (ens b)] (.pure (.sl (ens (lb (val a+val b))))):=by
 refine Sp.vz c.l9 fun _=>?_;simp[g.l9,go_sem]
 refine zai (S:=fun x:Nat × Nat × List UInt32=>mkSt [(0,.p (.sl (ens a))),(1,.p (.sl (ens b))),(5,.own 1 0 0 x.2.2.length),(6,.p (.int .u64 x.2.1)),(7,.p (.int .i64 x.1))] [(1,⟨1,avs x.2.2⟩)])
  (I:=fun x=>x.2.2.length=x.1/\(x.1<=max a.length b.length+1/\(x.1=max a.length b.length+1->x.2.1=0))/\x.2.1<=1/\val x.2.2+4294967296^x.1*x.2.1=val (a.take x.1)+val (b.take x.1)) (m:=fun x=>max a.length b.length+1 - x.1) (0,0,[]) (Weak.nl 5 1 1 rfl (Weak.of (keep:=[0,1,5,6,7]) (ids:=[((1,0),1)]) rfl)) ⟨rfl,⟨by simp,by simp⟩,by simp,by simp⟩ ?_
 rintro⟨i,sum,out⟩ ⟨h1,h2,h3,h4⟩ R hn hr hx;simp at h1 h2 h3 h4;simp[g.rx,go_sem];refine⟨fun h=>?_,fun h=>⟨fun h'=>?_,fun h'=>?_⟩⟩;rotate_left 2
 ·refine hx _ _ ?_;simp[go_sem];refine zac (zdg out) (by simp[go_sem]) ?_;simp[go_sem];rw[h']at h4;rw[ymq (by omega),ymq (by omega)]at h4;simp at h4;rw[h4]
 all_goals
  refine zac (zlb _ _ (by omega)) rfl ?_;simp[go_sem];refine zac (zlb _ _ (by omega)) rfl ?_;simp[go_sem];have e1:=i64s i (by omega);have t1:=zcd a i;have t2:=zcd b i;have u1:=za7 (a.getD i 0);have u2:=za7 (b.getD i 0);simp only[ymo]at t1 t2 u1 u2;generalize (a[i]?.getD 0).toNat=x at t1 u1 ⊢;generalize (b[i]?.getD 0).toNat=y at t2 u2 ⊢;have hxy:max a.length b.length<=i->x=0/\y=0:=fun hm=>by
   rw[ymq (by omega),ymq (by omega)]at t1 t2;have hp:0<4294967296^i:=ynj (by omega);constructor
   ·apply yrq;intro h0;have:=yoz hp h0;omega
   ·apply yrq;intro h0;have:=yoz hp h0;omega
  have e2:((sum:Int)+(↑x + ↑y)) % 18446744073709551616 / 4294967296=(((sum+x+y) / 4294967296:Nat):Int):=by omega
  obtain⟨z,hz⟩:∃ z:UInt32,z.toNat=(sum+x+y) % 4294967296:=⟨_,zaw _⟩;have e3:((sum:Int)+(↑x + ↑y)) % 4294967296=(z.toNat:Int):=by rw[hz];omega
  rw[e1,e2,e3];refine⟨by split at h<;>omega,hn (i+1,(sum+x+y) / 4294967296,out++[z]) _ (Weak.to [0,1,5,6,7] [((34,0),1)] (by simp[go_sem])) ⟨by simp[h1],?_,?_,?_⟩ ?_⟩
  all_goals simp
  ·split at h<;>omega
  ·omega
  ·rw[zep,hz,h1,t1,t2,ymx];have e4:sum+x+y=4294967296*((sum+x+y) / 4294967296)+(sum+x+y) % 4294967296:=by omega
   generalize 4294967296^i=p at h4 ⊢;generalize (sum+x+y) / 4294967296=q at e4 ⊢;generalize (sum+x+y) % 4294967296=r at e4 ⊢;have e5:p*(sum+x+y)=p*4294967296*q+p*r:=by rw[e4,yo1,yn3]
   rw[yo1,yo1]at e5;omega
  ·split at h<;>omega
theorem zmj(a b:List UInt32)(hl:a.length<=1073741824)(hab:val b<=val a):Sp P F.fe [.sl (ens a),.sl (ens b)] (.pure (.sl (ens (lb (val a - val b))))):=by
 refine Sp.vz c.fe fun _=>?_;simp[g.fe,go_sem]
 refine⟨by omega,zai (S:=fun x:Nat × Nat × List UInt32=>mkSt [(0,.p (.sl (ens a))),(1,.p (.sl (ens b))),(5,.own 1 0 0 a.length),(6,.p (.int .u64 x.2.1)),(13,.p (.int .i64 a.length)),(14,.p (.int .i64 x.1))] [(1,⟨1,avs x.2.2⟩)])
  (I:=fun x=>x.2.2.length=a.length/\x.1<=a.length/\x.2.1<=1/\val (x.2.2.take x.1)+val (b.take x.1)=val (a.take x.1)+4294967296^x.1*x.2.1) (m:=fun x=>a.length - x.1) (0,0,List.replicate a.length 0)
  (Weak.to [0,1,5,6,13,14] [((11,0),1)] (by simp[go_sem])) ⟨by simp,by simp,by simp,by simp⟩ ?_⟩
 rintro⟨i,less,out⟩ ⟨h1,h2,h3,h4⟩ R hn hr hx;simp at h1 h2 h3 h4;simp[g.ry,go_sem];refine⟨fun h=>?_,fun h=>?_⟩
 ·refine zac (zlb _ _ (by omega)) rfl ?_;simp[go_sem];refine zac (zlb _ _ (by omega)) rfl ?_;simp[go_sem];have e1:=i64s i (by omega);have t1:=zcd a i;have t2:=zcd b i;have u1:=za7 (a.getD i 0);have u2:=za7 (b.getD i 0);simp only[ymo]at t1 t2 u1 u2;generalize (a[i]?.getD 0).toNat=x at t1 u1 ⊢;generalize (b[i]?.getD 0).toNat=y at t2 u2 ⊢;obtain⟨z,hz⟩:∃ z:UInt32,z.toNat=(x+4294967296 - y - less) % 4294967296:=⟨_,zaw _⟩;obtain⟨l',hl'⟩:∃ l':Nat,l'=if x<y+less then 1 else 0:=⟨_,rfl⟩
  have e2:((x:Int) - ↑y - ↑less) % 18446744073709551616 / 9223372036854775808=(l':Int):=by subst hl';split<;>omega
  have e3:((x:Int) - ↑y - ↑less) % 4294967296=(z.toNat:Int):=by rw[hz];omega
  refine⟨by omega,zae (by omega) ?_⟩;rw[e1,e2,e3];refine hn (i+1,l',out.set i z) _ (Weak.to [0,1,5,6,13,14] [((1,0),1)] (by simp[go_sem])) ⟨by simp[h1],by simp;omega,by simp;subst hl';split<;>omega,?_⟩ ?_
  ·simp;rw[zsz (by omega),hz,t1,t2,ymx];have e4:x+4294967296*l'=y+less+(x+4294967296 - y - less) % 4294967296:=by subst hl';split<;>omega
   generalize 4294967296^i=p at *
   generalize (x+4294967296 - y - less) % 4294967296=r at *
   grind
  ·simp;omega
 ·refine hx _ _ ?_;have hi:i=a.length:=by omega
  subst hi;rw[<- h1,yn1,h1,yn1,zik (ynh hab (zcj a))]at h4;have u1:=zcj out;rw[h1]at u1;have hless:less=0:=by
   rcases ynk 0 less with h5|h5
   ·have:less=1:=by omega
    subst this;omega
   ·omega
  subst hless;simp[go_sem];refine zac (zdg out) (by simp[go_sem,<- h1]) ?_;simp[go_sem];rw[show val out=val a - val b by omega]
theorem zh7(a b:List UInt32)(hl:a.length<=536870912)(hl2:b.length<=536870912):Sp P F.fb [.sl (ens a),.sl (ens b)] (.pure (.sl (ens (lb (val a*val b))))):=by
 refine Sp.vz c.fb fun _=>?_;have e0:IntKind.i64.wrap ((a.length:Int)+b.length)=((a.length+b.length:Nat):Int):=i64w (by omega) (by omega);simp[g.fb,e0,go_sem];have e0':((a.length:Int)+b.length).toNat=a.length+b.length:=by omega
 simp only[e0']
 refine⟨by omega,zai (S:=fun x:Nat × List UInt32=>mkSt [(0,.p (.sl (ens a))),(1,.p (.sl (ens b))),(5,.own 1 0 0 (a.length+b.length)),(16,.p (.int .i64 a.length)),(17,.p (.int .i64 x.1))] [(1,⟨1,avs x.2⟩)])
  (I:=fun x=>x.2.length=a.length+b.length/\x.1<=a.length/\val x.2=val (a.take x.1)*val b) (m:=fun x=>a.length - x.1) (0,List.replicate (a.length+b.length) 0)
  (Weak.to [0,1,5,16,17] [((14,0),1)] (by simp[go_sem])) ⟨by simp,by simp,by simp[zeq]⟩ ?_⟩
 rintro⟨i,out⟩ ⟨h1,h2,h3⟩ R hn hr hx;simp at h1 h2 h3;simp[g.rr,go_sem];refine⟨fun h=>?_,fun h=>?_⟩
 ·refine zai (S:=fun x:Nat × Nat × List UInt32=>mkSt [(0,.p (.sl (ens a))),(1,.p (.sl (ens b))),(5,.own 1 0 0 (a.length+b.length)),(6,.p (.int .i64 i)),(7,.p (.int .u64 x.2.1)),(8,.p (.int .i64 x.1)),(16,.p (.int .i64 a.length)),(17,.p (.int .i64 i))] [(1,⟨1,avs x.2.2⟩)])
   (I:=fun x=>x.2.2.length=a.length+b.length/\x.1<=b.length+1/\x.2.1<4294967296/\val x.2.2+4294967296^i*4294967296^x.1*x.2.1=val (a.take i)*val b+4294967296^i*(a.getD i 0).toNat*val (b.take x.1)) (m:=fun x=>b.length+1 - x.1) (0,0,out)
   (Weak.to [0,1,5,6,7,8,16,17] [((1,0),1)] (by simp[go_sem])) ⟨by simp[h1],by simp,by simp,by simp[h3]⟩ ?_
  rintro⟨j,sum,o2⟩ ⟨k1,k2,k3,k4⟩ R2 hn2 hr2 hx2;simp at k1 k2 k3 k4;simp[g.rq,go_sem];have hlim:0<sum->j<b.length+1:=fun hs=>by
   apply Nat.lt_of_not_le;intro hj;have hj:j=b.length+1:=by omega
   subst hj;rw[zd2 b (by omega)]at k4;have q1:val (a.take i)*val b+4294967296^i*(a.getD i 0).toNat*val b=val (a.take (i+1))*val b:=by rw[zcd];grind
   simp only[ymo]at q1;rw[q1]at k4;have q2:val (a.take (i+1))<4294967296^(i+1):=ymp (zcj _) (ynl (by omega) (by simp;omega));have q3:=yo2 q2 (zcj b);have q4:4294967296^(i+1)*4294967296^b.length=4294967296^i*4294967296^(b.length+1):=by rw[<- Nat.pow_add,<- Nat.pow_add];congr 1;omega
   have q5:=yr3 (4294967296^i*4294967296^(b.length+1)) hs;omega
  refine⟨fun g=>?_,fun g=>⟨fun g'=>?_,fun g'=>?_⟩⟩;rotate_left 2
  ·refine hx2 _ _ ?_;simp[go_sem];have e1:=i64s i (by omega);rw[e1];refine hn (i+1,o2) _ (Weak.to [0,1,5,16,17] [((1,0),1)] (by simp[go_sem])) ⟨by simp[k1],by simp;omega,?_⟩ (by simp;omega);simp;rw[g',zd2 b (by omega)]at k4;rw[zcd];simp only[ymo]
   grind
  all_goals
   have hj:j<=b.length:=by first|omega|(have:=hlim g';omega)
   have ew:IntKind.i64.wrap ((i:Int)+j)=((i+j:Nat):Int):=i64w (by omega) (by omega);have ew':((i:Int)+j).toNat=i+j:=by omega
   simp[ew,ew'];refine⟨by omega,zae (by omega) ?_⟩;refine zaf (zlb _ _ (by omega)) rfl ?_;simp[go_sem];refine zaf (zlb _ _ (by omega)) rfl ?_;simp[go_sem];have e1:=i64s j (by omega);have t1:=zcd b j;have u0:=za7 (a.getD i 0);have u1:=za7 (b.getD j 0);have u2:=za7 o2[i+j];have vs:∀ z,val (o2.set (i+j) z)+4294967296^(i+j)*o2[i+j].toNat=val o2+4294967296^(i+j)*z.toNat:=fun z=>by have:=zqv o2 (i+j) z (by omega);simpa[List.getElem?_eq_getElem (show i+j<o2.length by omega)]using this
   simp only[ymo]at t1 u0 u1 k4;rw[ew,e1,ynz];refine⟨by omega,zae (by omega) ?_⟩;generalize hx1:(a[i]?.getD 0).toNat=x at u0 k4 ⊢;generalize (b[j]?.getD 0).toNat=y at t1 u1 ⊢;generalize o2[i+j].toNat=o at u2 vs ⊢;have hxy:x*y<=4294967295*4294967295:=yn4 (by omega) (by omega);obtain⟨z,hz⟩:∃ z:UInt32,z.toNat=(sum+(o+x*y)) % 4294967296:=⟨_,zaw _⟩;have e2:((sum:Int)+(o+x*y)) % 18446744073709551616 / 4294967296=(((sum+(o+x*y)) / 4294967296:Nat):Int):=by
    have:((x:Int)*y)=((x*y:Nat):Int):=by simp
    rw[this];omega
   have e3:((sum:Int)+(o+x*y)) % 4294967296=(z.toNat:Int):=by
    have:((x:Int)*y)=((x*y:Nat):Int):=by simp
    rw[this,hz];omega
   rw[e2,e3];refine hn2 (j+1,(sum+(o+x*y)) / 4294967296,o2.set (i+j) z) _ (Weak.to [0,1,5,6,7,8,16,17] [((1,0),1)] (by simp[go_sem])) ⟨by simp[k1],by simp;omega,by simp;omega,?_⟩ (by simp;omega);simp;have v:=vs z;rw[hz,ymt]at v;rw[t1,ymx,hx1];have e4:=yqq (sum+(o+x*y)) 4294967296;exact zph v k4 e4
 ·refine hx _ _ ?_;simp[go_sem];refine zac (zdg out) (by simp[go_sem,<- h1]) ?_;simp[go_sem];have:i=a.length:=by omega
  subst this;rw[h3,yn1]
theorem z7r(a:List UInt32)(d:UInt32)(hl:a.length<=1073741824)(hd:d≠0):Sp P F.mf [.sl (ens a),.int .u32 d.toNat] (.pure (.tup [.sl (ens (lb (val a / d.toNat))),.int .u32 (val a % d.toNat:Nat)])):=by
 refine Sp.vz c.mf fun _=>?_;have e0:IntKind.i64.wrap ((a.length:Int) - 1)=(a.length:Int) - 1:=i64w (by omega) (by omega);simp[g.mf,e0,go_sem];have hd0:0<d.toNat:=by
  rcases yp6 d.toNat with h|h
  ·exact absurd (zg9 (by simpa using h)) hd
  ·exact h
 have hdl:=za7 d
 refine⟨by omega,zai (S:=fun x:Nat × Nat × List UInt32=>mkSt [(0,.p (.sl (ens a))),(1,.p (.int .u32 d.toNat)),(6,.own 1 0 0 a.length),(7,.p (.int .u64 x.2.1)),(8,.p (.int .i64 ((x.1:Int) - 1)))] [(1,⟨1,avs x.2.2⟩)])
  (I:=fun x=>x.2.2.length=a.length/\x.1<=a.length/\x.2.1<d.toNat/\val (a.drop x.1)=val (x.2.2.drop x.1)*d.toNat+x.2.1) (m:=fun x=>x.1) (a.length,0,List.replicate a.length 0)
  (Weak.to [0,1,6,7,8] [((11,0),1)] (by simp[go_sem])) ⟨by simp,by simp,by simpa using hd0,by simp⟩ ?_⟩
 rintro⟨k,r,q⟩ ⟨h1,h2,h3,h4⟩ R hn hr hx;simp at h1 h2 h3 h4;simp[g.sa,go_sem];refine⟨fun h=>?_,fun h=>?_⟩
 ·have e1:((k:Int) - 1).toNat=k - 1:=by omega
  have e2:IntKind.i64.wrap ((k:Int) - 1 - 1)=((k - 1:Nat):Int) - 1:=by rw[i64w (by omega) (by omega)];omega
  simp only[e1,e2];refine zae (by omega) ⟨by omega,?_⟩;have hx1:=za7 a[k - 1];have d1:a.drop (k - 1)=a[k - 1]::a.drop k:=by rw[yos (by omega)];congr 1;rw[show k - 1+1=k by omega]
  generalize a[k - 1]=x at hx1 d1 ⊢;have ho:=z3y (r:=r) (x:=x.toNat) (k:=32) (by omega) (by omega) (by omega);simp only[show(2:Int)^32=4294967296 from rfl,show(2:Nat)^32=4294967296 from rfl]at ho;rw[ho,z69,yfz];refine⟨by omega,by omega,zae (by omega) ⟨by omega,?_⟩⟩;obtain⟨z,hz⟩:∃ z:UInt32,z.toNat=(r*4294967296+x.toNat) / d.toNat % 4294967296:=⟨_,zaw _⟩;have hq:(r*4294967296+x.toNat) / d.toNat<4294967296:=by rw[yq1 hd0];have:(r+1)*4294967296<=d.toNat*4294967296:=ymu _ h3;rw[ynd 4294967296];omega
  rw[yoa hq]at hz;have e3:(((r*4294967296+x.toNat) / d.toNat:Nat):Int) % 4294967296=(z.toNat:Int):=by rw[hz];omega
  rw[e3];refine hn (k - 1,(r*4294967296+x.toNat) % d.toNat,q.set (k - 1) z) _ (Weak.to [0,1,6,7,8] [((1,0),1)] (by simp[go_sem])) ⟨by simp[h1],by simp;omega,by simp;exact ypd _ hd0,?_⟩ (by simp;omega);simp;have d2:(q.set (k - 1) z).drop (k - 1)=z::q.drop k:=by rw[yos (by simp;omega)];simp;rw[show k - 1+1=k by omega,List.drop_set_of_lt (by omega)]
  rw[d1,d2,zbr,zbr,h4,hz];have e4:=yqq (r*4294967296+x.toNat) d.toNat;generalize (r*4294967296+x.toNat) / d.toNat=u at e4 ⊢;generalize (r*4294967296+x.toNat) % d.toNat=w at e4 ⊢
  grind
 ·refine hx _ _ ?_;have hk:k=0:=by omega
  subst hk;simp at h4;simp[go_sem];refine zac (zdg q) (by simp[go_sem,<- h1]) ?_;have hr':(val a / d.toNat=val q/\val a % d.toNat=r):=by
   rw[h4];constructor
   ·rw[ynd,Nat.mul_add_div hd0,ypc h3];omega
   ·rw[ynd,Nat.mul_add_mod,yoa h3]
  simp[go_sem];rw[hr'.1];have:=hr'.2;refine⟨rfl,?_⟩;rw[<- this];omega
theorem z4y{v p r A P2 x s w u d q:Nat}(h4:v+p*r=A*P2)(e8:4294967296*u+w=x*s+r)(e9:p=d*q)(hk:P2=d*s):v+p*w+p*4294967296*u=(A+q*x)*P2:=by
 have e5:p*(4294967296*u+w)=p*(x*s+r):=by rw[e8]
 subst e9 hk;simp only[yo1,yn7,yn3,ynd,Nat.mul_left_comm]at *
 omega
theorem zrv(a:List UInt32)(k:Nat)(hl:a.length+k<=1073741824):Sp P F.ff [.sl (ens a),.int .i64 k] (.pure (.sl (ens (lb (val a*2^k))))):=by
 refine Sp.vz c.ff fun _=>?_;have e0:IntKind.i64.wrap ((k:Int) / 32)=((k / 32:Nat):Int):=by rw[i64w (by omega) (by omega)];omega
 have e1:IntKind.i64.wrap (((k / 32:Nat):Int)+a.length)=((k / 32+a.length:Nat):Int):=by rw[i64w (by omega) (by omega)];omega
 have e2:IntKind.i64.wrap (((k / 32+a.length:Nat):Int)+1)=((k / 32+a.length+1:Nat):Int):=by rw[i64w (by omega) (by omega)];omega
 simp[g.ff,go_sem];rw[e0,e1,e2]
 refine⟨⟨by omega,by omega,by omega,by omega⟩,zai (S:=fun x:Nat × Nat × List UInt32=>mkSt [(1,.p (.int .i64 k)),(5,.own 1 0 0 (k / 32+x.1)),(6,.p (.int .u64 x.2.1)),(18,.p (.sl (ens a))),(19,.p (.int .i64 a.length)),(20,.p (.int .i64 x.1))] [(1,⟨1,avs x.2.2⟩)])
  (I:=fun x=>x.2.2.length=k / 32+x.1/\x.1<=a.length/\x.2.1<2^(k % 32)/\val x.2.2+4294967296^(k / 32+x.1)*x.2.1=val (a.take x.1)*2^k) (m:=fun x=>a.length - x.1) (0,0,List.replicate (k / 32) 0)
  (Weak.to [1,5,6,18,19,20] [((17,0),1)] (by simp[go_sem];omega)) ⟨by simp,by simp,by simp;exact ynj (by omega),by simp[zeq]⟩ ?_⟩
 rintro⟨i,r,out⟩ ⟨h1,h2,h3,h4⟩ R hn hr hx;simp at h1 h2 h3 h4;simp[g.sb,go_sem];have es:((k:Int)).tmod 32=((k % 32:Nat):Int):=z69 k 32;have e4:((k % 32:Nat):Int).toNat.min 64=k % 32:=yod (by rw[ynz];omega);have hs:=zhl (s:=k % 32) (ypd _ (by omega));have hk:=zc4 k;rw[es,e4];refine⟨fun h=>zae h ⟨by omega,⟨by omega,by omega⟩,?_⟩,fun h=>?_⟩
 ·have hx1:=za7 a[i];have t1:=zcd a i;simp[h]at t1;generalize a[i]=x at hx1 t1 ⊢;have hb:x.toNat*2^(k % 32)<=4294967295*2147483648:=yn4 (by omega) hs;have ho:=ydb (r:=x.toNat) (x:=r) (k:=k % 32) (by omega) h3 (by omega);rw[ho];have e5:=i64s i (by omega);obtain⟨z,hz⟩:∃ z:UInt32,z.toNat=(x.toNat*2^(k % 32)+r) % 4294967296:=⟨_,zaw _⟩;have e6:((x.toNat*2^(k % 32)+r:Nat):Int) / 4294967296=(((x.toNat*2^(k % 32)+r) / 4294967296:Nat):Int):=by omega
  have e7:((x.toNat*2^(k % 32)+r:Nat):Int) % 4294967296=(z.toNat:Int):=by rw[hz];omega
  have hlt:(x.toNat*2^(k % 32)+r) / 4294967296<2^(k % 32):=by rw[yq1 (by omega)];have:(x.toNat+1)*2^(k % 32)<=4294967296*2^(k % 32):=ymu _ (by omega);rw[yn7]at this;omega
  rw[e5,e6,e7];refine hn (i+1,(x.toNat*2^(k % 32)+r) / 4294967296,out++[z]) _ (Weak.to [1,5,6,18,19,20] [((35,0),1)] (by simp[go_sem];omega)) ⟨by simp[h1];omega,by simp;omega,by simpa using hlt,?_⟩ (by simp;omega);simp;have e8:=Nat.div_add_mod (x.toNat*2^(k % 32)+r) 4294967296;rw[zep,h1,hz,t1,show k / 32+(i+1)=k / 32+i+1 by omega,Nat.pow_succ];have e9:4294967296^(k / 32+i)=4294967296^(k / 32)*4294967296^i:=Nat.pow_add _ _ _;generalize (x.toNat*2^(k % 32)+r) / 4294967296=u at *
  generalize (x.toNat*2^(k % 32)+r) % 4294967296=w at *
  exact z4y h4 e8 e9 hk
 ·refine hx _ _ ?_;have hi:i=a.length:=by omega
  subst hi;simp[go_sem];obtain⟨z,hz⟩:∃ z:UInt32,z.toNat=r % 4294967296:=⟨_,zaw _⟩;have e7:(r:Int) % 4294967296=(z.toNat:Int):=by rw[hz];omega
  rw[e7];refine⟨⟨by omega,by omega⟩,zac (zdg (out++[z])) (zb7 (zdu rfl (by simp[go_sem]) (by simp[h1])) zc0) ?_⟩;simp[go_sem];rw[zep,hz,h1];rw[yn1]at h4;rw[yoa (by omega),h4]
theorem z73(a:List UInt32)(k:Nat)(hl:a.length<=1073741824)(hk:k<4294967296):Sp P F.mi [.sl (ens a),.int .i64 k] (.pure (.sl (ens (lb (val a / 2^k))))):=by
 refine Sp.vz c.mi fun _=>?_;obtain⟨q,hq⟩:∃ q,k / 32=q:=⟨_,rfl⟩;obtain⟨s,hs⟩:∃ s,k % 32=s:=⟨_,rfl⟩;have e0:IntKind.i64.wrap ((k:Int) / 32)=(q:Int):=by rw[i64w (by omega) (by omega)];omega
 simp[g.mi,go_sem];rw[e0];obtain⟨A,hA⟩:∃ A,A=val (a.drop q) / 2^s:=⟨_,rfl⟩
 refine zai (S:=fun x:Nat × List UInt32=>mkSt [(0,.p (.sl (ens a))),(1,.p (.int .i64 k)),(5,.own 1 0 0 x.1),(6,.p (.int .i64 ((q:Int)+x.1)))] [(1,⟨1,avs x.2⟩)])
  (I:=fun x=>x.2.length=x.1/\(q+x.1<=a.length\/x.1=0)/\val x.2=A % 4294967296^x.1) (m:=fun x=>a.length - (q+x.1)) (0,[]) (Weak.nl 5 1 1 rfl (Weak.to [0,1,5,6] [((1,0),1)] (by simp[go_sem]))) ⟨rfl,by simp,by simp[Nat.mod_one]⟩ ?_
 rintro⟨j,out⟩ ⟨h1,h2,h3⟩ R hn hr hx;simp at h1 h2 h3;simp[g.sc,go_sem];have es:((k:Int)).tmod 32=(s:Int):=by rw[<- hs];exact z69 k 32
 have e4:s.min 64=s:=yod (by omega);have hs2:=zhl (s:=s) (by omega);refine⟨fun h=>?_,fun h=>?_⟩
 ·have ew:IntKind.i64.wrap ((q:Int)+j+1)=(q:Int)+j+1:=by rw[i64w (by omega) (by omega)]
  have ei:((q:Int)+j+1).toNat=q+j+1:=by omega
  have ei':((q:Int)+j).toNat=q+j:=by omega
  rw[ew];refine zac (zlb _ _ (by omega)) rfl ?_;simp[go_sem];refine zac (zlb _ _ (by omega)) rfl ?_;simp[go_sem];rw[es,ei,ei',i64w (by omega) (by omega)];have d1:=zil a (q+j);have d2:=zil a (q+j+1);have u1:=za7 (a.getD (q+j) 0);have u2:=za7 (a.getD (q+j+1) 0);simp only[ymo]at d1 d2 u1 u2;generalize (a[q+j]?.getD 0).toNat=x at d1 u1 ⊢;generalize (a[q+j+1]?.getD 0).toNat=y at d2 u2 ⊢;have ho:=z3y (r:=y) (x:=x) (k:=32) (by omega) (by omega) (by omega);simp only[show(2:Int)^32=4294967296 from rfl,show(2:Nat)^32=4294967296 from rfl]at ho;rw[ho,ynz,e4];obtain⟨z,hz⟩:∃ z:UInt32,z.toNat=(y*4294967296+x) / 2^s % 4294967296:=⟨_,zaw _⟩;have e7:((y*4294967296+x:Nat):Int) / 2^s % 4294967296=(z.toNat:Int):=by rw[hz];simp
  rw[e7];refine⟨by omega,by omega,hn (j+1,out++[z]) _ (Weak.to [0,1,5,6] [((30,0),1)] (by simp[go_sem,h1];omega)) ⟨by simp[h1],by simp;omega,?_⟩ (by simp;omega)⟩;simp;have ed:A / 4294967296^j=val (a.drop (q+j)) / 2^s:=by rw[hA,yq0,ynd,<- Nat.div_div_eq_div_mul,zqw,yoc]
  rw[zep,h1,h3,hz,Nat.mod_pow_succ,ed,d1,d2,zvf _ _ _ _ (by omega)]
 ·refine hx _ _ ?_;simp[go_sem];refine zac (zdg out) (zb7 (zdu rfl rfl h1.symm) zc0) ?_;simp[go_sem];have:val a / 2^k=A:=by rw[zc4 k,hq,hs,<- Nat.div_div_eq_div_mul,zqw,hA]
  rw[this,h3,yoa];have h5:=zcj (a.drop q);rw[yoo]at h5;refine ynh (hA ▸ ypr _ _) (ymp h5 (ynl (by omega) (by omega)))
open Enc (enc)
def idxI{α : Type}(p : α -> Bool)(l:List α):Int:=match l.findIdx? p with|some i=>i|none => -1
section
variable {α : Type} {p : α -> Bool} {l:List α}
theorem zn9(h:∀ x∈l,p x=false):idxI p l = -1:=by unfold idxI;rw[yrs.2 h]
theorem zwb{k:Nat}(hk:k<l.length)(h:∀ x∈l.take k,p x=false)(h2:p l[k]=true):idxI p l=k:=by
 unfold idxI;have:l.findIdx? p=some k:=by rw[yrt];refine⟨hk,h2,fun j hj=>?_⟩;have:=h l[j] (by rw[List.mem_take_iff_getElem];exact⟨j,by omega,rfl⟩);simp[this]
 rw[this]
theorem zn8:(decide (0<=idxI p l))=l.any p:=by
 unfold idxI;cases h:l.findIdx? p with
 | none =>
  have:=yrs.1 h;simp;exact fun x hx=>this x hx
 | some i =>
  obtain⟨h1,h2,_⟩:=yrt.1 h;simp;exact⟨l[i],ym3 _,h2⟩
end
theorem zgs(st:St)(l:List PV):(l.map AV.p).mapM (toPV st FUEL)=some l:=z4p 5 st l
theorem Sp.nilcase{P:Program}{f:FuncId}{r:RV}(h1:Sp P f [.nl] r)(h2:Sp P f [.sle] r):Sp P f [.sl []] r:=by
 refine⟨h1.1,fun w M vals hM hv=>?_⟩;cases hv with
 | cons _ x _ xs hx hxs =>
  cases hxs;cases hx with
  | sl0 a cap =>
   cases a with
   | none=>exact h1.2 w M _ hM (.cons _ _ _ _ (.nl cap) .nil)
   | some a=>exact h2.2 w M _ hM (.cons _ _ _ _ (.sle a cap) .nil)
  | sl _ b o cap=>exact h2.2 w M _ hM (.cons _ _ _ _ (.sle _ cap) .nil)
end Go.Ab
namespace Go.Ab
open Enc (enc)
attribute [local go_sem] zal Opd.slots
def zdm(n:Nat):Nat:=if n=0 then 0 else Nat.log2 n+1
def len8:List UInt8:=[0,1,2,2,3,3,3,3,4,4,4,4,4,4,4,4,5,5,5,5,5,5,5,5,5,5,5,5,5,5,5,5,6,6,6,6,6,6,6,6,6,6,6,6,6,6,6,6,6,6,6,6,6,6,6,6,6,6,6,6,6,6,6,6,7,7,7,7,7,7,7,7,7,7,7,7,7,7,7,7,7,7,7,7,7,7,7,7,7,7,7,7,7,7,7,7,7,7,7,7,7,7,7,7,7,7,7,7,7,7,7,7,7,7,7,7,7,7,7,7,7,7,7,7,7,7,7,7]++List.replicate 128 8
theorem z82:∀ n,n<256->len8[n]?=some (UInt8.ofNat (zdm n)):=by decide +kernel
theorem zih{n m:Nat}:zdm n<=m ↔ n<2^m:=by
 unfold zdm;split
 ·rename_i h;subst h;simp[Nat.two_pow_pos]
 ·rename_i h;rw[<- Nat.log2_lt h];omega
theorem zke{n k:Nat}(h:2^k<=n):zdm n=k+zdm (n / 2^k):=by
 have key:∀ m,zdm n<=m ↔ k+zdm (n / 2^k)<=m:=by
  intro m;rw[zih];by_cases hm:k<=m
  ·have:k+zdm (n / 2^k)<=m ↔ zdm (n / 2^k)<=m - k:=by omega
   rw[this,zih,yq1 (Nat.two_pow_pos k),<- Nat.pow_add,Nat.sub_add_cancel hm]
  ·have:2^m<=2^k:=ynl (by omega) (by omega);constructor
   ·intro h2;omega
   ·intro h2;omega
 have h1:=(key (zdm n)).1 (ym8 _);have h2:=(key (k+zdm (n / 2^k))).2 (ym8 _);omega
theorem ydl(n:Nat)(h:n<256):∃ b:UInt8,len8[n]?=some b/\b.toNat=zdm n:=by refine⟨_,z82 n h,?_⟩;have:zdm n<=8:=zih.2 (by omega);simp[UInt8.toNat_ofNat'];omega
theorem zys:(bya [0,1,2,2,3,3,3,3,4,4,4,4,4,4,4,4,5,5,5,5,5,5,5,5,5,5,5,5,5,5,5,5,6,6,6,6,6,6,6,6,6,6,6,6,6,6,6,6,6,6,6,6,6,6,6,6,6,6,6,6,6,6,6,6,7,7,7,7,7,7,7,7,7,7,7,7,7,7,7,7,7,7,7,7,7,7,7,7,7,7,7,7,7,7,7,7,7,7,7,7,7,7,7,7,7,7,7,7,7,7,7,7,7,7,7,7,7,7,7,7,7,7,7,7,7,7,7,7,8,8,8,8,8,8,8,8,8,8,8,8,8,8,8,8,8,8,8,8,8,8,8,8,8,8,8,8,8,8,8,8,8,8,8,8,8,8,8,8,8,8,8,8,8,8,8,8,8,8,8,8,8,8,8,8,8,8,8,8,8,8,8,8,8,8,8,8,8,8,8,8,8,8,8,8,8,8,8,8,8,8,8,8,8,8,8,8,8,8,8,8,8,8,8,8,8,8,8,8,8,8,8,8,8,8,8,8,8,8,8,8,8,8,8,8,8,8,8,8,8,8,8,8,8,8,8,8]).data.toList=len8:=by decide +kernel
theorem z4x(x:UInt32):Sp P F.fg [.int .u32 x.toNat] (.pure (.int .i64 (zdm x.toNat))):=by
 have hx:=x.toNat_lt;generalize x.toNat=n at *
 have fin:∀ (m k:Nat),m<256->zdm n=k+zdm m->∀ (z:Int),z=m->∃ e,len8[z.toNat]?=some e/\(0<=z)/\IntKind.i64.wrap (e.toNat:Int)=e.toNat/\∀ k':Int,k'=k->IntKind.i64.wrap (k'+e.toNat)=(zdm n:Nat):=by intro m k hm hk z hz;subst hz;obtain⟨b,h1,h2⟩:=ydl m hm;have:zdm m<=8:=zih.2 (by omega);have hn:zdm n<=32:=zih.2 (by omega);exact⟨b,by simpa using h1,by omega,i64w (by omega) (by omega),fun k' hk'=>by rw[i64w (by omega) (by omega)];omega⟩
 refine Sp.vz c.fg fun _=>?_;simp[g.fg,go_sem,zys];refine⟨fun h1=>⟨fun h2=>?_,fun h2=>?_⟩,fun h1=>⟨fun h2=>?_,fun h2=>?_⟩⟩
 ·have e1:zdm n=24+zdm (n / 65536 / 256):=by have a1:=zke (n:=n) (k:=16) (by omega);have a2:=zke (n:=n / 2^16) (k:=8) (by omega);simp only[Nat.reducePow]at a1 a2;omega
  obtain⟨e,h3,h4,h5,h6⟩:=fin (n / 65536 / 256) 24 (by omega) e1 ((n:Int) / 65536 / 256 % 256) (by omega);rw[zcc];refine⟨e,h3,?_⟩;have e24:IntKind.i64.wrap 24=24:=i64w (by omega) (by omega);simp[go_sem,h4,e24,h5,h6 24 rfl]
 ·have e1:zdm n=16+zdm (n / 65536):=zke (n:=n) (k:=16) (by omega);obtain⟨e,h3,h4,h5,h6⟩:=fin (n / 65536) 16 (by omega) e1 ((n:Int) / 65536 % 256) (by omega);rw[zcc];refine⟨e,h3,?_⟩;simp[go_sem,h4,h5,h6 16 rfl]
 ·have e1:zdm n=8+zdm (n / 256):=zke (n:=n) (k:=8) (by omega);obtain⟨e,h3,h4,h5,h6⟩:=fin (n / 256) 8 (by omega) e1 ((n:Int) / 256 % 256) (by omega);rw[zcc];refine⟨e,h3,?_⟩;have e8:IntKind.i64.wrap 8=8:=i64w (by omega) (by omega);simp[go_sem,h4,e8,h5,h6 8 rfl]
 ·obtain⟨e,h3,h4,h5,h6⟩:=fin n 0 (by omega) (by omega) ((n:Int) % 256) (by omega);have h7:=h6 0 rfl;rw[Int.zero_add,h5]at h7;have hn:zdm n<=32:=zih.2 (by omega);have h8:IntKind.i64.wrap ((zdm n:Nat):Int)=(zdm n:Nat):=i64w (by omega) (by omega);rw[zcc];refine⟨e,h3,?_⟩;simp[go_sem,h4,h5,h7,h8]
theorem z9b(l:List Int)(f:FuncId)(caps:List PV)(p:Int->Bool)(hl:l.length<=4611686018427387904)(hf:∀ x∈l,Sp P f (enc x::caps) (.pure (.bool (p x)))) :
  Sp P F.k9 [.sl (ens l),.fn f caps] (.pure (.int .i64 (idxI p l))):=by
 refine Sp.vz c.k9 fun _=>?_;simp[g.k9,go_sem]
 refine zai (S:=fun k:Nat=>mkSt [(0,.p (.sl (ens l))),(1,.p (.fn f caps)),(7,.p (.int .i64 l.length)),(8,.p (.int .i64 k))] []) (I:=fun k=>k<=l.length/\∀ x∈l.take k,p x=false) (m:=fun k=>l.length - k) 0
  (Weak.to [0,1,7,8] [] (by simp[go_sem])) ⟨by omega,by simp⟩ ?_
 rintro k ⟨h1,h2⟩ R hn hr hx;have e1:=i64s k (by omega);simp[g.rh,mkSt,go_sem];refine⟨fun hk=>?_,fun hk=>hx _ _ ?_⟩
 ·refine zae hk ?_
  try simp[go_sem]
  refine zaa (hf l[k] (ym3 hk)) (zb7 rfl (zgs _ _)) ?_;rcases ymz (p l[k])with h3|h3
  ·simp[h3,go_sem];refine hr _ ?_;simp[go_sem,zwb hk h2 h3]
  ·simp[h3,e1,go_sem];refine hn (k+1) _ (Weak.to [0,1,7,8] [] (by simp[go_sem])) ⟨by omega,fun x hx=>?_⟩ (by omega);rw[ymr hk]at hx;rcases ymn.1 hx with hx|hx
   ·exact h2 x hx
   ·simp at hx;rw[hx];exact h3
 ·have:k=l.length:=by omega
  subst this;simp[go_sem,zn9 (p:=p) (l:=l) (by simpa using h2)]
theorem ydy(l:List Int)(f:FuncId)(caps:List PV)(p:Int->Bool)(hl:l.length<=4611686018427387904)(hf:∀ x∈l,Sp P f (enc x::caps) (.pure (.bool (p x)))) :
  Sp P F.j9 [.sl (ens l),.fn f caps] (.pure (.bool (l.any p))):=by
 refine Sp.vz c.j9 fun _=>?_;simp[g.j9,go_sem];refine zaa (z9b l f caps p hl hf) rfl ?_;simp[go_sem,zn8]
theorem zsk(l:List UInt32)(hl:l.length<=2147483648):Sp P F.bk [.sl (ens l)] (.pure (.sl (ens l))):=by
 cases l with
 | nil =>
  refine Sp.nilcase ?_ ?_
  ·refine Sp.vz c.bk fun _=>?_;simp[g.bk,go_sem]
  ·refine Sp.vz c.bk fun _=>?_;simp[g.bk,go_sem,LIM]
 | cons x l =>
  refine Sp.vz c.bk fun _=>?_;simp at hl;simp[g.bk,go_sem,LIM,hl]
theorem z05(l:List Int)(hl:l.length<=2147483648):Sp P F.bn [.sl (ens l)] (.pure (.sl (ens l))):=by
 cases l with
 | nil =>
  refine Sp.nilcase ?_ ?_
  ·refine Sp.vz c.bn fun _=>?_;simp[g.bn,go_sem]
  ·refine Sp.vz c.bn fun _=>?_;simp[g.bn,go_sem,LIM]
 | cons x l =>
  refine Sp.vz c.bn fun _=>?_;simp at hl;simp[g.bn,go_sem,LIM,hl]
end Go.Ab
namespace Go.Ab
def blen(n:Nat):Nat:=if n=0 then 0 else Nat.log2 n+1
theorem z6j{x:Nat}(h:x<4294967296):blen x<=32:=by
 unfold blen;split
 ·omega
 ·have:=(Nat.log2_lt (n:=x) (k:=32) (by assumption)).2 h;omega
theorem yaf{x:Nat}(h:x≠0):1<=blen x:=by unfold blen;rw[ym1 h];omega
theorem z83(x:UInt32):Sp P F.fg [.int .u32 x.toNat] (.pure (.int .i64 (blen x.toNat))):=z4x x
theorem zlv(l:List UInt32)(hl:l.length<=2147483648):Sp P F.bk [.sl (ens l)] (.pure (.sl (ens l))):=zsk l hl
end Go.Ab
