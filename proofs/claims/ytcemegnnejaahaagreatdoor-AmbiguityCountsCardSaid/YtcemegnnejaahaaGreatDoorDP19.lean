/- Lemmas for the law AmbiguityCounts, part 19. No conditions. -/
import Derived.Test.YtcemegnnejaahaaGreatDoorDP18
set_option maxRecDepth 100000
set_option maxHeartbeats 4000000
set_option linter.all false
namespace Go.Ab
def val:List UInt32->Nat
 | []=>0
 | x::l=>x.toNat+4294967296*val l
def lb(n:Nat):List UInt32:=if h:n=0 then[]else UInt32.ofNat n::lb (n / 4294967296)
termination_by n
decreasing_by omega
theorem za0(x:UInt32):x.toNat<4294967296:=x.toNat_lt
theorem zav(n:Nat):(UInt32.ofNat n).toNat=n % 4294967296:=by simp[UInt32.toNat_ofNat']
theorem zhc{x y:UInt32}(h:x.toNat=y.toNat):x=y:=UInt32.toNat_inj.1 h
@[simp] theorem z43:val []=0:=rfl
@[simp] theorem zbo(x:UInt32)(l:List UInt32):val (x::l)=x.toNat+4294967296*val l:=rfl
@[simp] theorem z60:lb 0=[]:=by rw[lb];simp
theorem zi9{n:Nat}(h:n≠0):lb n=UInt32.ofNat n::lb (n / 4294967296):=by rw[lb];simp[h]
@[simp] theorem zmd(n:Nat):val (lb n)=n:=by
 induction n using Nat.strongRecOn with
 | ind n ih =>
  by_cases h:n=0
  ·subst h;simp
  ·rw[zi9 h,zbo,zav,ih _ (by omega)];omega
theorem zme(l r:List UInt32):val (l++r)=val l+4294967296^l.length*val r:=by
 induction l with
 | nil=>simp
 | cons x l ih=>rw[yi2,zbo,ih,zbo,yg2,yfn];rw[yg5,yfy _ 4294967296,yfv];omega
theorem zb3(l:List UInt32):val l<4294967296^l.length:=by
 induction l with
 | nil=>simp
 | cons x l ih=>rw[zbo,yg2,yfn];have:=za0 x;omega
theorem zd1(n:Nat):val (List.replicate n 0)=0:=by
 induction n with
 | zero=>rfl
 | succ n ih=>rw[yh9,zbo,ih];rfl
theorem zb1(l:List UInt32)(i:Nat):val (l.take (i+1))=val (l.take i)+4294967296^i*(l.getD i 0).toNat:=by
 induction l generalizing i with
 | nil=>simp
 | cons x l ih =>
  cases i with
  | zero=>simp
  | succ i=>simp only[yjc,zbo,ih,List.getD_cons_succ,yfn];rw[yg5,yfy (4294967296^i) 4294967296,yfv];omega
theorem zdf(l:List UInt32){i:Nat}(h:l.length<=i):val (l.take i)=val l:=by rw[yfw h]
theorem zd0(l:List UInt32)(x:UInt32):val (l++[x])=val l+4294967296^l.length*x.toNat:=by rw[zme];simp
theorem zni(l:List UInt32)(i:Nat)(x:UInt32)(h:i<l.length):val (l.set i x)+4294967296^i*(l.getD i 0).toNat=val l+4294967296^i*x.toNat:=by
 induction l generalizing i with
 | nil=>simp at h
 | cons y l ih =>
  cases i with
  | zero=>simp;omega
  | succ i =>
   have:=ih i (by simpa using h);simp only[List.set_cons_succ,zbo,List.getD_cons_succ,Nat.pow_succ];rw[Nat.mul_comm (4294967296^i) 4294967296,Nat.mul_assoc,Nat.mul_assoc];omega
theorem zsr(l:List UInt32)(i:Nat):val l=val (l.take i)+4294967296^(min i l.length)*val (l.drop i):=by
 conv=>lhs;rw[<- List.take_append_drop i l]
 rw[zme,yh8]
theorem znj(l:List UInt32)(i:Nat):val l / 4294967296^i=val (l.drop i):=by
 rcases yg1 l.length i with h|h
 ·rw[yj3 (by omega)];refine yhu (yfo (zb3 l) (yg6 (by omega) (by omega)))
 ·have:=zsr l i;rw[yhj h]at this;rw[this,yjk _ _ (ygs (by omega))];have h2:=zb3 (l.take i);rw[yh8,yhj h]at h2;rw[yhu h2];omega
theorem zfg(l:List UInt32)(i:Nat):(l.getD i 0).toNat=val l / 4294967296^i % 4294967296:=by
 rw[znj];rcases yg1 i l.length with h|h
 ·rw[yho h,zbo];simp[h]
 ·rw[yj3 h];simp[yi3 h]
def zbi(l:List UInt32):Prop:=l.getLast?≠some 0
theorem zca:∀ {l:List UInt32},zbi l->lb (val l)=l
 | [],_=>by simp
 | x::l,h=>by
  have hl:zbi l:=by
   cases l with
   | nil=>simp[zbi]
   | cons y r=>simpa[zbi]using h
  have ih:=zca hl;have hne:val (x::l)≠0:=by
   intro h0;simp only[zbo]at h0;have hx:x=0:=zhc (by simp;omega);have hv:val l=0:=by omega
   rw[hv]at ih;simp at ih;subst hx;subst ih;simp[zbi]at h
  rw[zi9 hne];have h1:UInt32.ofNat (val (x::l))=x:=zhc (by rw[zav,zbo];have:=za0 x;omega);have h2:val (x::l) / 4294967296=val l:=by rw[zbo];have:=za0 x;omega
  rw[h1,h2,ih]
theorem zbp(n:Nat):zbi (lb n):=by
 induction n using Nat.strongRecOn with
 | ind n ih =>
  by_cases h:n=0
  ·subst h;simp[zbi]
  ·rw[zi9 h];have:=ih (n / 4294967296) (by omega);by_cases h2:n / 4294967296=0
   ·rw[h2];simp only[z60,zbi,List.getLast?_singleton,ne_eq,yf3];intro h3;have:=congrArg UInt32.toNat h3;rw[zav]at this;simp at this;omega
   ·rw[zi9 h2]at this ⊢;simpa[zbi]using this
@[simp] theorem z75(n:Nat):lb n=[] ↔ n=0:=⟨fun h=>by have:=congrArg val h;simpa using this,fun h=>by subst h;simp⟩
theorem zau{n k:Nat}(h:n<4294967296^k):(lb n).length<=k:=by
 induction k generalizing n with
 | zero=>simp at h;subst h;simp
 | succ k ih =>
  by_cases h0:n=0
  ·subst h0;simp
  ·rw[zi9 h0,yg2];have:=@ih (n / 4294967296) (by rw[yfn]at h;omega);omega
theorem zlc:lb 1=[1]:=by rw[zi9 (by omega)];simp
theorem zis{n:Nat}(h:n≠0):0<(lb n).length:=by rw[zi9 h];simp
theorem zld{n:Nat}(h:n≠0):4294967296^((lb n).length - 1)<=n:=by
 induction n using Nat.strongRecOn with
 | ind n ih =>
  rw[zi9 h,yg2,yib];by_cases h2:n / 4294967296=0
  ·rw[h2];simp;omega
  ·have:=ih _ (by omega) h2;have hp:=zis h2;have e:(lb (n / 4294967296)).length=(lb (n / 4294967296)).length - 1+1:=by omega
   rw[e,yfn];omega
def cmpN(m n:Nat):Int:=if m<n then -1 else if m=n then 0 else 1
theorem zft(l:List UInt32)(i:Nat):val l / 4294967296^i=4294967296*(val l / 4294967296^(i+1))+(l.getD i 0).toNat:=by rw[zfg,yfn,<- Nat.div_div_eq_div_mul];omega
theorem zfh(l:List UInt32){i:Nat}(h:l.length<=i):val l / 4294967296^i=0:=by rw[znj,yj3 h];rfl
theorem zic{m n k:Nat}(h:m / k<n / k):m<n:=by apply Nat.lt_of_not_le;intro h2;have:=Nat.div_le_div_right (c:=k) h2;omega
theorem znn{l:List UInt32}{i:Nat}{x:UInt32}(h:i<l.length):(l.set i x).take (i+1)=l.take i++[x]:=by rw[List.take_succ_eq_append_getElem (by simpa using h)];simp[List.take_set_of_le]
theorem zpb{l:List UInt32}{i:Nat}{x:UInt32}(h:i<l.length):val ((l.set i x).take (i+1))=val (l.take i)+4294967296^i*x.toNat:=by rw[znn h,zd0,yh8,yhj (by omega)]
theorem zg9{l:List UInt32}{n:Nat}(h:val l<4294967296^n):val (l.take n)=val l:=by
 rcases yg1 n l.length with hn|hn
 ·have h1:=zsr l n;rw[yhj (by omega)]at h1;have:val (l.drop n)=0:=by apply yk1;intro h2;have:=yiw (4294967296^n) h2;omega
  rw[this]at h1;omega
 ·rw[zdf _ hn]
theorem zmg{v v' p q B sum o x y d r A T:Nat}(hv:v'+p*q*o=v+p*q*r)(hk:v+p*q*sum=A+p*x*T)(e4:B*d+r=sum+(o+x*y)) :
  v'+p*(q*B)*d=A+p*x*(T+q*y):=by
 have e5:p*q*(B*d+r)=p*q*(sum+(o+x*y)):=by rw[e4]
 simp only[yg5,yfy,Nat.mul_left_comm]at *
 omega
theorem zcr(k:Nat):2^k=4294967296^(k / 32)*2^(k % 32):=by have:(4294967296:Nat)=2^32:=rfl;rw[this,<- Nat.pow_mul,<- Nat.pow_add];congr 1;omega
theorem zgf{s:Nat}(h:s<32):2^s<=2147483648:=yg6 (n:=2) (by omega) (show s<=31 by omega)
theorem zre(x y r s:Nat)(hs:s<32):(x+4294967296*(y+4294967296*r)) / 2^s % 4294967296=(y*4294967296+x) / 2^s % 4294967296:=by
 have h:2^s*2^(32 - s)=4294967296:=by rw[<- Nat.pow_add,show s+(32 - s)=32 by omega]
 have e:x+4294967296*(y+4294967296*r)=(y*4294967296+x)+2^s*(4294967296*(2^(32 - s)*r)):=by rw[<- Nat.mul_assoc (2^s),yfy (2^s) 4294967296,yfv,<- Nat.mul_assoc (2^s),h,yg5];omega
 rw[e,yjk _ _ (ygs (by omega)),yk2]
theorem zha(l:List UInt32)(i:Nat):val (l.drop i)=(l.getD i 0).toNat+4294967296*val (l.drop (i+1)):=by
 rcases yg1 i l.length with h|h
 ·rw[yho h,zbo];simp[h]
 ·rw[yj3 h,yj3 (by omega)];simp[yi3 h]
theorem zhp(n:Nat):n<4294967296^(lb n).length:=by have:=zb3 (lb n);simpa using this
theorem z2g{U V i L:Nat}(hL:4294967296^(L - 1)<=V)(hL0:0<L)(hU:U<V*4294967296^(i+1)) :
  U / (V*4294967296^i)<=min (U / 4294967296^(i+L - 1) / (V / 4294967296^(L - 1))) 4294967295:=by
 have hp:∀ k,0<4294967296^k:=fun k=>ygs (by omega);have hV:0<V:=yfo (hp _) hL;refine Nat.le_min.2 ⟨?_,?_⟩
 ·have ht:0<V / 4294967296^(L - 1):=Nat.div_pos hL (hp _);rw[yk3 ht,yk3 (hp _)];have h1:U / (V*4294967296^i)*(V*4294967296^i)<=U:=Nat.div_mul_le_self _ _;have h2:V / 4294967296^(L - 1)*4294967296^(L - 1)<=V:=Nat.div_mul_le_self _ _;have e:i+L - 1=(L - 1)+i:=by omega
  rw[e,yg9];generalize U / (V*4294967296^i)=d at *
  have h3:d*(V / 4294967296^(L - 1)*4294967296^(L - 1))<=d*V:=yh1 _ h2;have h4:=yg7 (4294967296^i) h3;simp only[yfv]at *
  omega
 ·have:U / (V*4294967296^i)<4294967296:=by rw[yi5 (Nat.mul_pos hV (hp _))];rw[yfn]at hU;rw[yfy 4294967296,yfv];exact hU
  omega
theorem zus{U n:Nat}(h:U<4294967296^(n+2)):((lb U).getD (n+1) 0).toNat*4294967296+((lb U).getD n 0).toNat=U / 4294967296^n:=by
 have h1:=zfg (lb U) (n+1);have h2:=zfg (lb U) n;have e:U / 4294967296^(n+1)=U / 4294967296^n / 4294967296:=by rw[yfn,yhb]
 have e2:U / 4294967296^n<4294967296*4294967296:=by
  rw[yi5 (ygs (by omega))];have:4294967296^(n+2)=4294967296*4294967296*4294967296^n:=by rw[yg9,yfy]
  omega
 rw[zmd]at h1 h2;rw[h1,h2,e];generalize U / 4294967296^n=x at *
 omega
theorem zwa{V:Nat}(hV:V≠0):((lb V).getD ((lb V).length - 1) 0).toNat=V / 4294967296^((lb V).length - 1)/\0<V / 4294967296^((lb V).length - 1):=by
 have h1:=zfg (lb V) ((lb V).length - 1);rw[zmd]at h1;have h2:=zhp V;have h3:=zis hV;constructor
 ·rw[h1,ygu];rw[yi5 (ygs (by omega)),yfy,<- Nat.pow_succ,Nat.succ_eq_add_one,show(lb V).length - 1+1=(lb V).length by omega];exact h2
 ·exact Nat.div_pos (zld hV) (ygs (by omega))
theorem z4c(i:Nat):2^(32*i)=4294967296^i:=by rw[Nat.pow_mul]
theorem z3i{m n:Nat}:cmpN m n<0 ↔ m<n:=by unfold cmpN;split<;>(try split)<;>omega
theorem zfw{m n:Nat}:0<=cmpN m n ↔ n<=m:=by unfold cmpN;split<;>(try split)<;>omega
theorem zgu{m n:Nat}:cmpN m n=0 ↔ m=n:=by unfold cmpN;split<;>(try split)<;>omega
theorem zi2(a:List UInt32)(i:Int)(h:0<=i):Sp P F.au [.sl (ens a),.int .i64 i] (.pure (.int .u64 (a.getD i.toNat 0).toNat)):=by
 refine Sp.vz c.au fun _=>?_;simp[g.au];refine⟨fun h1=>zad (by omega) ⟨h,?_⟩,fun h1=>?_⟩
 ·have:i.toNat<a.length:=by omega
  simp[*]
 ·have:a.length<=i.toNat:=by omega
  simp[this]
theorem zc0(a:List UInt32):Sp P F.ah [.sl (ens a)] (.pure (.sl (ens (lb (val a))))):=by
 refine Sp.vz c.ah fun hs=>?_;have hl:=zk0 hs.1;simp[g.ah];refine zaj (S:=fun l:List UInt32=>mkSt [(0,.p (.sl (ens l)))] []) (I:=fun l=>val l=val a/\l.length<=9223372036854775807) (m:=fun l=>l.length) a (Weak.of (keep:=[0]) (ids:=[]) rfl) ⟨rfl,hl⟩ ?_;rintro l ⟨h1,h2⟩ R hn hr hx;have e:IntKind.i64.wrap (↑l.length - 1) = ↑l.length - 1:=i64w (by omega) (by omega);have e2:((l.length:Int) - 1).toNat=l.length - 1:=by omega
 simp[g.po,mkSt,e,e2];have out:zbi l->R (Exit.exit 0) ⟨[(0,.p (.sl (ens l)))],[(DEAD,[none])]⟩:=fun hc=>by refine hx _ _ ?_;simp;rw[<- h1,zca hc]
 refine⟨fun h=>zad (by omega) ⟨by omega,fun h0=>⟨by omega,hn (l.take (l.length - 1)) _ (Weak.of (keep:=[0]) (ids:=[]) rfl) ?_ ?_⟩,fun h0=>out ?_⟩,fun h=>out ?_⟩
 ·refine⟨?_,by simp;omega⟩;have h3:l=l.take (l.length - 1)++[0]:=by
   conv=>lhs;rw[<- List.take_append_getLast l (by intro h4;simp[h4]at h)]
   rw[List.getLast_eq_getElem,zhc (x:=l[l.length - 1]) (y:=0) (by simpa using h0)]
  rw[h3,zd0]at h1;simpa using h1
 ·simp;omega
 ·intro h4;rw[List.getLast?_eq_getElem?,yfm (by omega)]at h4;simp at h4;rw[h4]at h0;exact h0 rfl
 ·subst h;simp[zbi]
theorem zlw(a b:List UInt32):Sp P F.bq [.sl (ens a),.sl (ens b)] (.pure (.int .i64 (cmpN (val a) (val b)))):=by
 refine Sp.vz c.bq fun hs=>?_;have hl:=zk0 hs.1;have hl2:=zk0 hs.2.1;simp[g.bq];have e:IntKind.i64.wrap ((if a.length<b.length then(b.length:Int)else a.length) - 1)=((max a.length b.length:Nat):Int) - 1:=by rw[i64w (by split<;>omega) (by split<;>omega)];split<;>omega
 simp only[e];refine zaj (S:=fun k:Nat=>mkSt [(0,.p (.sl (ens a))),(1,.p (.sl (ens b))),(5,.p (.int .i64 ((k:Int) - 1)))] []) (I:=fun k=>k<=max a.length b.length/\val a / 4294967296^k=val b / 4294967296^k) (m:=fun k=>k) (max a.length b.length) (Weak.of (keep:=[0,1,5]) (ids:=[]) rfl) ⟨yf8 _,by rw[zfh _ (by omega),zfh _ (by omega)]⟩ ?_;rintro k ⟨h1,h2⟩ R hn hr hx;simp[g.pt,mkSt];refine⟨fun hk=>?_,fun hk=>?_⟩
 ·refine zab (zi2 _ _ (by omega)) rfl ?_;simp;refine zab (zi2 _ _ (by omega)) rfl ?_;simp;have e2:((k:Int) - 1).toNat=k - 1:=by omega
  have e3:IntKind.i64.wrap ((k:Int) - 1 - 1)=((k - 1:Nat):Int) - 1:=by rw[i64w (by omega) (by omega)];omega
  have d1:=zft a (k - 1);have d2:=zft b (k - 1);rw[show k - 1+1=k by omega]at d1 d2;have u1:=za0 (a.getD (k - 1) 0);have u2:=za0 (b.getD (k - 1) 0);simp only[yfj]at d1 d2 u1 u2;simp only[e3];generalize (a[k - 1]?.getD 0).toNat=x at d1 u1 ⊢;generalize (b[k - 1]?.getD 0).toNat=y at d2 u2 ⊢;refine⟨fun heq=>hn (k - 1) _ (Weak.of (keep:=[0,1,5]) (ids:=[]) rfl) ⟨by omega,by omega⟩ (by omega),fun hne=>hr _ ?_⟩;simp;have hlt:val a / 4294967296^(k - 1)<val b / 4294967296^(k - 1)\/val b / 4294967296^(k - 1)<val a / 4294967296^(k - 1):=by omega
  simp only[wrap_i64];rcases hlt with h|h
  ·have:=zic h;rw[cmpN,yf1 this];omega
  ·have:=zic h;rw[cmpN,yf0 (by omega),yf0 (by omega)];omega
 ·refine hx _ _ ?_;simp;have:k=0:=by omega
  subst this;simp at h2;simp[cmpN,h2]
theorem z5x(a b:List UInt32)(hl:a.length<=1073741824)(hl2:b.length<=1073741824):Sp P F.jq [.sl (ens a),.sl (ens b)] (.pure (.sl (ens (lb (val a+val b))))):=by
 refine Sp.vz c.jq fun _=>?_;simp[g.jq]
 refine zaj (S:=fun x:Nat × Nat × List UInt32=>mkSt [(0,.p (.sl (ens a))),(1,.p (.sl (ens b))),(5,.own 1 0 0 x.2.2.length),(6,.p (.int .u64 x.2.1)),(7,.p (.int .i64 x.1))] [(1,⟨1,avs x.2.2⟩)])
  (I:=fun x=>x.2.2.length=x.1/\(x.1<=max a.length b.length+1/\(x.1=max a.length b.length+1->x.2.1=0))/\x.2.1<=1/\val x.2.2+4294967296^x.1*x.2.1=val (a.take x.1)+val (b.take x.1)) (m:=fun x=>max a.length b.length+1 - x.1) (0,0,[]) (Weak.nl 5 1 1 rfl (Weak.of (keep:=[0,1,5,6,7]) (ids:=[((1,0),1)]) rfl)) ⟨rfl,⟨by simp,by simp⟩,by simp,by simp⟩ ?_
 rintro⟨i,sum,out⟩ ⟨h1,h2,h3,h4⟩ R hn hr hx;simp at h1 h2 h3 h4;simp[g.p8];refine⟨fun h=>?_,fun h=>⟨fun h'=>?_,fun h'=>?_⟩⟩;rotate_left 2
 ·refine hx _ _ ?_;simp;refine zab (zc0 out) (by simp) ?_;simp;rw[h']at h4;rw[yfw (by omega),yfw (by omega)]at h4;simp at h4;rw[h4]
 all_goals
  refine zab (zi2 _ _ (by omega)) rfl ?_;simp;refine zab (zi2 _ _ (by omega)) rfl ?_;simp;have e1:=i64s i;have t1:=zb1 a i;have t2:=zb1 b i;have u1:=za0 (a.getD i 0);have u2:=za0 (b.getD i 0);simp only[yfj]at t1 t2 u1 u2;generalize (a[i]?.getD 0).toNat=x at t1 u1 ⊢;generalize (b[i]?.getD 0).toNat=y at t2 u2 ⊢;have hxy:max a.length b.length<=i->x=0/\y=0:=fun hm=>by
   rw[yfw (by omega),yfw (by omega)]at t1 t2;have hp:0<4294967296^i:=ygs (by omega);constructor
   ·apply yk1;intro h0;have:=Nat.mul_pos hp h0;omega
   ·apply yk1;intro h0;have:=Nat.mul_pos hp h0;omega
  have e2:((sum:Int)+(↑x + ↑y)) % 18446744073709551616 / 4294967296=(((sum+x+y) / 4294967296:Nat):Int):=by omega
  obtain⟨z,hz⟩:∃ z:UInt32,z.toNat=(sum+x+y) % 4294967296:=⟨_,zav _⟩;have e3:((sum:Int)+(↑x + ↑y)) % 4294967296=(z.toNat:Int):=by rw[hz];omega
  rw[e1,e2,e3];refine⟨by split at h<;>omega,hn (i+1,(sum+x+y) / 4294967296,out++[z]) _ (Weak.to [0,1,5,6,7] [((34,0),1)] (by simp)) ⟨by simp[h1],?_,?_,?_⟩ ?_⟩
  all_goals simp
  ·split at h<;>omega
  ·omega
  ·rw[zd0,hz,h1,t1,t2,yfn];have e4:sum+x+y=4294967296*((sum+x+y) / 4294967296)+(sum+x+y) % 4294967296:=by omega
   generalize 4294967296^i=p at h4 ⊢;generalize (sum+x+y) / 4294967296=q at e4 ⊢;generalize (sum+x+y) % 4294967296=r at e4 ⊢;have e5:p*(sum+x+y)=p*4294967296*q+p*r:=by rw[e4,yg5,yfv]
   rw[yg5,yg5]at e5;omega
  ·split at h<;>omega
theorem zj2(a b:List UInt32)(hl:a.length<=1073741824)(hab:val b<=val a):Sp P F.dj [.sl (ens a),.sl (ens b)] (.pure (.sl (ens (lb (val a - val b))))):=by
 refine Sp.vz c.dj fun _=>?_;simp[g.dj]
 refine⟨by omega,zaj (S:=fun x:Nat × Nat × List UInt32=>mkSt [(0,.p (.sl (ens a))),(1,.p (.sl (ens b))),(5,.own 1 0 0 a.length),(6,.p (.int .u64 x.2.1)),(13,.p (.int .i64 a.length)),(14,.p (.int .i64 x.1))] [(1,⟨1,avs x.2.2⟩)])
  (I:=fun x=>x.2.2.length=a.length/\x.1<=a.length/\x.2.1<=1/\val (x.2.2.take x.1)+val (b.take x.1)=val (a.take x.1)+4294967296^x.1*x.2.1) (m:=fun x=>a.length - x.1) (0,0,List.replicate a.length 0)
  (Weak.to [0,1,5,6,13,14] [((11,0),1)] (by simp)) ⟨by simp,by simp,by simp,by simp⟩ ?_⟩
 rintro⟨i,less,out⟩ ⟨h1,h2,h3,h4⟩ R hn hr hx;simp at h1 h2 h3 h4;simp[g.p9];refine⟨fun h=>?_,fun h=>?_⟩
 ·refine zab (zi2 _ _ (by omega)) rfl ?_;simp;refine zab (zi2 _ _ (by omega)) rfl ?_;simp;have e1:=i64s i;have t1:=zb1 a i;have t2:=zb1 b i;have u1:=za0 (a.getD i 0);have u2:=za0 (b.getD i 0);simp only[yfj]at t1 t2 u1 u2;generalize (a[i]?.getD 0).toNat=x at t1 u1 ⊢;generalize (b[i]?.getD 0).toNat=y at t2 u2 ⊢;obtain⟨z,hz⟩:∃ z:UInt32,z.toNat=(x+4294967296 - y - less) % 4294967296:=⟨_,zav _⟩;obtain⟨l',hl'⟩:∃ l':Nat,l'=if x<y+less then 1 else 0:=⟨_,rfl⟩
  have e2:((x:Int) - ↑y - ↑less) % 18446744073709551616 / 9223372036854775808=(l':Int):=by subst hl';split<;>omega
  have e3:((x:Int) - ↑y - ↑less) % 4294967296=(z.toNat:Int):=by rw[hz];omega
  refine⟨by omega,zad (by omega) ?_⟩;rw[e1,e2,e3];refine hn (i+1,l',out.set i z) _ (Weak.to [0,1,5,6,13,14] [((1,0),1)] (by simp)) ⟨by simp[h1],by simp;omega,by simp;subst hl';split<;>omega,?_⟩ ?_
  ·simp;rw[zpb (by omega),hz,t1,t2,yfn];have e4:x+4294967296*l'=y+less+(x+4294967296 - y - less) % 4294967296:=by subst hl';split<;>omega
   generalize 4294967296^i=p at *
   generalize (x+4294967296 - y - less) % 4294967296=r at *
   grind
  ·simp;omega
 ·refine hx _ _ ?_;have hi:i=a.length:=by omega
  subst hi;rw[<- h1,yfs,h1,yfs,zg9 (yh2 hab (zb3 a))]at h4;have u1:=zb3 out;rw[h1]at u1;have hless:less=0:=by
   rcases yg1 0 less with h5|h5
   ·have:less=1:=by omega
    subst this;omega
   ·omega
  subst hless;simp;refine zab (zc0 out) (by simp[<- h1]) ?_;simp;rw[show val out=val a - val b by omega]
theorem zju(a b:List UInt32)(hl:a.length<=536870912)(hl2:b.length<=536870912):Sp P F.fo [.sl (ens a),.sl (ens b)] (.pure (.sl (ens (lb (val a*val b))))):=by
 refine Sp.vz c.fo fun _=>?_;have e0:IntKind.i64.wrap ((a.length:Int)+b.length)=((a.length+b.length:Nat):Int):=i64w (by omega) (by omega);simp[g.fo,e0];have e0':((a.length:Int)+b.length).toNat=a.length+b.length:=by omega
 simp only[e0']
 refine⟨by omega,zaj (S:=fun x:Nat × List UInt32=>mkSt [(0,.p (.sl (ens a))),(1,.p (.sl (ens b))),(5,.own 1 0 0 (a.length+b.length)),(16,.p (.int .i64 a.length)),(17,.p (.int .i64 x.1))] [(1,⟨1,avs x.2⟩)])
  (I:=fun x=>x.2.length=a.length+b.length/\x.1<=a.length/\val x.2=val (a.take x.1)*val b) (m:=fun x=>a.length - x.1) (0,List.replicate (a.length+b.length) 0)
  (Weak.to [0,1,5,16,17] [((14,0),1)] (by simp)) ⟨by simp,by simp,by simp[zd1]⟩ ?_⟩
 rintro⟨i,out⟩ ⟨h1,h2,h3⟩ R hn hr hx;simp at h1 h2 h3;simp[g.p0];refine⟨fun h=>?_,fun h=>?_⟩
 ·refine zaj (S:=fun x:Nat × Nat × List UInt32=>mkSt [(0,.p (.sl (ens a))),(1,.p (.sl (ens b))),(5,.own 1 0 0 (a.length+b.length)),(6,.p (.int .i64 i)),(7,.p (.int .u64 x.2.1)),(8,.p (.int .i64 x.1)),(16,.p (.int .i64 a.length)),(17,.p (.int .i64 i))] [(1,⟨1,avs x.2.2⟩)])
   (I:=fun x=>x.2.2.length=a.length+b.length/\x.1<=b.length+1/\x.2.1<4294967296/\val x.2.2+4294967296^i*4294967296^x.1*x.2.1=val (a.take i)*val b+4294967296^i*(a.getD i 0).toNat*val (b.take x.1)) (m:=fun x=>b.length+1 - x.1) (0,0,out)
   (Weak.to [0,1,5,6,7,8,16,17] [((1,0),1)] (by simp)) ⟨by simp[h1],by simp,by simp,by simp[h3]⟩ ?_
  rintro⟨j,sum,o2⟩ ⟨k1,k2,k3,k4⟩ R2 hn2 hr2 hx2;simp at k1 k2 k3 k4;simp[g.py];have hlim:0<sum->j<b.length+1:=fun hs=>by
   apply Nat.lt_of_not_le;intro hj;have hj:j=b.length+1:=by omega
   subst hj;rw[zdf b (by omega)]at k4;have q1:val (a.take i)*val b+4294967296^i*(a.getD i 0).toNat*val b=val (a.take (i+1))*val b:=by rw[zb1];grind
   simp only[yfj]at q1;rw[q1]at k4;have q2:val (a.take (i+1))<4294967296^(i+1):=yfo (zb3 _) (yg6 (by omega) (by simp;omega));have q3:=yhc q2 (zb3 b);have q4:4294967296^(i+1)*4294967296^b.length=4294967296^i*4294967296^(b.length+1):=by rw[<- Nat.pow_add,<- Nat.pow_add];congr 1;omega
   have q5:=yiw (4294967296^i*4294967296^(b.length+1)) hs;omega
  refine⟨fun g=>?_,fun g=>⟨fun g'=>?_,fun g'=>?_⟩⟩;rotate_left 2
  ·refine hx2 _ _ ?_;simp;have e1:=i64s i;rw[e1];refine hn (i+1,o2) _ (Weak.to [0,1,5,16,17] [((1,0),1)] (by simp)) ⟨by simp[k1],by simp;omega,?_⟩ (by simp;omega);simp;rw[g',zdf b (by omega)]at k4;rw[zb1];simp only[yfj]
   grind
  all_goals
   have hj:j<=b.length:=by first|omega|(have:=hlim g';omega)
   have ew:IntKind.i64.wrap ((i:Int)+j)=((i+j:Nat):Int):=i64w (by omega) (by omega);have ew':((i:Int)+j).toNat=i+j:=by omega
   simp[ew,ew'];refine⟨by omega,zad (by omega) ?_⟩;refine zah (zi2 _ _ (by omega)) rfl ?_;simp;refine zah (zi2 _ _ (by omega)) rfl ?_;simp;have e1:=i64s j;have t1:=zb1 b j;have u0:=za0 (a.getD i 0);have u1:=za0 (b.getD j 0);have u2:=za0 o2[i+j];have vs:∀ z,val (o2.set (i+j) z)+4294967296^(i+j)*o2[i+j].toNat=val o2+4294967296^(i+j)*z.toNat:=fun z=>by have:=zni o2 (i+j) z (by omega);simpa[List.getElem?_eq_getElem (show i+j<o2.length by omega)]using this
   simp only[yfj]at t1 u0 u1 k4;rw[ew,e1,yh4];refine⟨by omega,zad (by omega) ?_⟩;generalize hx1:(a[i]?.getD 0).toNat=x at u0 k4 ⊢;generalize (b[j]?.getD 0).toNat=y at t1 u1 ⊢;generalize o2[i+j].toNat=o at u2 vs ⊢;have hxy:x*y<=4294967295*4294967295:=yfz (by omega) (by omega);obtain⟨z,hz⟩:∃ z:UInt32,z.toNat=(sum+(o+x*y)) % 4294967296:=⟨_,zav _⟩;have e2:((sum:Int)+(o+x*y)) % 18446744073709551616 / 4294967296=(((sum+(o+x*y)) / 4294967296:Nat):Int):=by
    have:((x:Int)*y)=((x*y:Nat):Int):=by simp
    rw[this];omega
   have e3:((sum:Int)+(o+x*y)) % 4294967296=(z.toNat:Int):=by
    have:((x:Int)*y)=((x*y:Nat):Int):=by simp
    rw[this,hz];omega
   rw[e2,e3];refine hn2 (j+1,(sum+(o+x*y)) / 4294967296,o2.set (i+j) z) _ (Weak.to [0,1,5,6,7,8,16,17] [((1,0),1)] (by simp)) ⟨by simp[k1],by simp;omega,by simp;omega,?_⟩ (by simp;omega);simp;have v:=vs z;rw[hz,yg9]at v;rw[t1,yfn,hx1];have e4:=yj4 (sum+(o+x*y)) 4294967296;exact zmg v k4 e4
 ·refine hx _ _ ?_;simp;refine zab (zc0 out) (by simp[<- h1]) ?_;simp;have:i=a.length:=by omega
  subst this;rw[h3,yfs]
theorem z02(a:List UInt32)(d:UInt32)(hl:a.length<=1073741824)(hd:d≠0):Sp P F.jy [.sl (ens a),.int .u32 d.toNat] (.pure (.tup [.sl (ens (lb (val a / d.toNat))),.int .u32 (val a % d.toNat:Nat)])):=by
 refine Sp.vz c.jy fun _=>?_;have e0:IntKind.i64.wrap ((a.length:Int) - 1)=(a.length:Int) - 1:=i64w (by omega) (by omega);simp[g.jy,e0];have hd0:0<d.toNat:=by
  rcases yha d.toNat with h|h
  ·exact absurd (zhc (by simpa using h)) hd
  ·exact h
 have hdl:=za0 d
 refine⟨by omega,zaj (S:=fun x:Nat × Nat × List UInt32=>mkSt [(0,.p (.sl (ens a))),(1,.p (.int .u32 d.toNat)),(6,.own 1 0 0 a.length),(7,.p (.int .u64 x.2.1)),(8,.p (.int .i64 ((x.1:Int) - 1)))] [(1,⟨1,avs x.2.2⟩)])
  (I:=fun x=>x.2.2.length=a.length/\x.1<=a.length/\x.2.1<d.toNat/\val (a.drop x.1)=val (x.2.2.drop x.1)*d.toNat+x.2.1) (m:=fun x=>x.1) (a.length,0,List.replicate a.length 0)
  (Weak.to [0,1,6,7,8] [((11,0),1)] (by simp)) ⟨by simp,by simp,by simpa using hd0,by simp⟩ ?_⟩
 rintro⟨k,r,q⟩ ⟨h1,h2,h3,h4⟩ R hn hr hx;simp at h1 h2 h3 h4;simp[g.qg];refine⟨fun h=>?_,fun h=>?_⟩
 ·have e1:((k:Int) - 1).toNat=k - 1:=by omega
  have e2:IntKind.i64.wrap ((k:Int) - 1 - 1)=((k - 1:Nat):Int) - 1:=by rw[i64w (by omega) (by omega)];omega
  simp only[e2];refine zad (by omega) ⟨by omega,?_⟩;have hx1:=za0 a[k - 1];have d1:a.drop (k - 1)=a[k - 1]::a.drop k:=by rw[yho (by omega)];congr 1;rw[show k - 1+1=k by omega]
  generalize a[k - 1]=x at hx1 d1 ⊢;have ho:=zxj (r:=r) (x:=x.toNat) (k:=32) (by omega) (by omega) (by omega);simp only[show(2:Int)^32=4294967296 from rfl,show(2:Nat)^32=4294967296 from rfl]at ho;rw[ho,z0s,z9a];refine⟨by omega,by omega,zad (by omega) ⟨by omega,?_⟩⟩;obtain⟨z,hz⟩:∃ z:UInt32,z.toNat=(r*4294967296+x.toNat) / d.toNat % 4294967296:=⟨_,zav _⟩;have hq:(r*4294967296+x.toNat) / d.toNat<4294967296:=by rw[yi5 hd0];have:(r+1)*4294967296<=d.toNat*4294967296:=yg7 _ h3;rw[yfy 4294967296];omega
  rw[ygu hq]at hz;have e3:(((r*4294967296+x.toNat) / d.toNat:Nat):Int) % 4294967296=(z.toNat:Int):=by rw[hz];omega
  rw[e3];refine hn (k - 1,(r*4294967296+x.toNat) % d.toNat,q.set (k - 1) z) _ (Weak.to [0,1,6,7,8] [((1,0),1)] (by simp)) ⟨by simp[h1],by simp;omega,by simp;exact ygq _ hd0,?_⟩ (by simp;omega);simp;have d2:(q.set (k - 1) z).drop (k - 1)=z::q.drop k:=by rw[yho (by simp;omega)];simp;rw[show k - 1+1=k by omega,List.drop_set_of_lt (by omega)]
  rw[d1,d2,zbo,zbo,h4,hz];have e4:=yj4 (r*4294967296+x.toNat) d.toNat;generalize (r*4294967296+x.toNat) / d.toNat=u at e4 ⊢;generalize (r*4294967296+x.toNat) % d.toNat=w at e4 ⊢
  grind
 ·refine hx _ _ ?_;have hk:k=0:=by omega
  subst hk;simp at h4;simp;refine zab (zc0 q) (by simp[<- h1]) ?_;have hr':(val a / d.toNat=val q/\val a % d.toNat=r):=by
   rw[h4];constructor
   ·rw[yfy,Nat.mul_add_div hd0,yhu h3];omega
   ·rw[yfy,Nat.mul_add_mod,ygu h3]
  simp;rw[hr'.1];have:=hr'.2;refine⟨rfl,?_⟩;rw[<- this];omega
theorem zyl{v p r A P2 x s w u d q:Nat}(h4:v+p*r=A*P2)(e8:4294967296*u+w=x*s+r)(e9:p=d*q)(hk:P2=d*s):v+p*w+p*4294967296*u=(A+q*x)*P2:=by
 have e5:p*(4294967296*u+w)=p*(x*s+r):=by rw[e8]
 subst e9 hk;simp only[yg5,yfv,yfy,Nat.mul_left_comm]at *
 omega
theorem zoe(a:List UInt32)(k:Nat)(hl:a.length+k<=1073741824):Sp P F.dm [.sl (ens a),.int .i64 k] (.pure (.sl (ens (lb (val a*2^k))))):=by
 refine Sp.vz c.dm fun _=>?_;have e0:IntKind.i64.wrap ((k:Int) / 32)=((k / 32:Nat):Int):=by rw[i64w (by omega) (by omega)];omega
 have e1:IntKind.i64.wrap (((k / 32:Nat):Int)+a.length)=((k / 32+a.length:Nat):Int):=by rw[i64w (by omega) (by omega)];omega
 have e2:IntKind.i64.wrap (((k / 32+a.length:Nat):Int)+1)=((k / 32+a.length+1:Nat):Int):=by rw[i64w (by omega) (by omega)];omega
 simp[g.dm];rw[e0,e1,e2]
 refine⟨⟨by omega,by omega,by omega,by omega⟩,zaj (S:=fun x:Nat × Nat × List UInt32=>mkSt [(1,.p (.int .i64 k)),(5,.own 1 0 0 (k / 32+x.1)),(6,.p (.int .u64 x.2.1)),(18,.p (.sl (ens a))),(19,.p (.int .i64 a.length)),(20,.p (.int .i64 x.1))] [(1,⟨1,avs x.2.2⟩)])
  (I:=fun x=>x.2.2.length=k / 32+x.1/\x.1<=a.length/\x.2.1<2^(k % 32)/\val x.2.2+4294967296^(k / 32+x.1)*x.2.1=val (a.take x.1)*2^k) (m:=fun x=>a.length - x.1) (0,0,List.replicate (k / 32) 0)
  (Weak.to [1,5,6,18,19,20] [((17,0),1)] (by simp;omega)) ⟨by simp,by simp,by simp;exact ygs (by omega),by simp[zd1]⟩ ?_⟩
 rintro⟨i,r,out⟩ ⟨h1,h2,h3,h4⟩ R hn hr hx;simp at h1 h2 h3 h4;simp[g.qh];have es:((k:Int)).tmod 32=((k % 32:Nat):Int):=z0s k 32;have e4:((k % 32:Nat):Int).toNat.min 64=k % 32:=yhj (by rw[yh4];omega);have hs:=zgf (s:=k % 32) (ygq _ (by omega));have hk:=zcr k;rw[es,e4];refine⟨fun h=>zad h ⟨by omega,⟨by omega,by omega⟩,?_⟩,fun h=>?_⟩
 ·have hx1:=za0 a[i];have t1:=zb1 a i;simp[h]at t1;generalize a[i]=x at hx1 t1 ⊢;have hb:x.toNat*2^(k % 32)<=4294967295*2147483648:=yfz (by omega) hs;have ho:=z6d (r:=x.toNat) (x:=r) (k:=k % 32) (by omega) h3 (by omega);rw[ho];have e5:=i64s i;obtain⟨z,hz⟩:∃ z:UInt32,z.toNat=(x.toNat*2^(k % 32)+r) % 4294967296:=⟨_,zav _⟩;have e6:((x.toNat*2^(k % 32)+r:Nat):Int) / 4294967296=(((x.toNat*2^(k % 32)+r) / 4294967296:Nat):Int):=by omega
  have e7:((x.toNat*2^(k % 32)+r:Nat):Int) % 4294967296=(z.toNat:Int):=by rw[hz];omega
  have hlt:(x.toNat*2^(k % 32)+r) / 4294967296<2^(k % 32):=by rw[yi5 (by omega)];have:(x.toNat+1)*2^(k % 32)<=4294967296*2^(k % 32):=yg7 _ (by omega);rw[ygf]at this;omega
  rw[e5,e6,e7];refine hn (i+1,(x.toNat*2^(k % 32)+r) / 4294967296,out++[z]) _ (Weak.to [1,5,6,18,19,20] [((35,0),1)] (by simp;omega)) ⟨by simp[h1];omega,by simp;omega,by simpa using hlt,?_⟩ (by simp;omega);simp;have e8:=Nat.div_add_mod (x.toNat*2^(k % 32)+r) 4294967296;rw[zd0,h1,hz,t1,show k / 32+(i+1)=k / 32+i+1 by omega,Nat.pow_succ];have e9:4294967296^(k / 32+i)=4294967296^(k / 32)*4294967296^i:=Nat.pow_add _ _ _;generalize (x.toNat*2^(k % 32)+r) / 4294967296=u at *
  generalize (x.toNat*2^(k % 32)+r) % 4294967296=w at *
  exact zyl h4 e8 e9 hk
 ·refine hx _ _ ?_;have hi:i=a.length:=by omega
  subst hi;simp;obtain⟨z,hz⟩:∃ z:UInt32,z.toNat=r % 4294967296:=⟨_,zav _⟩;have e7:(r:Int) % 4294967296=(z.toNat:Int):=by rw[hz];omega
  rw[e7];refine⟨⟨by omega,by omega⟩,zab (zc0 (out++[z])) (zb5 (zdt rfl (by simp) (by simp[h1])) zcw) ?_⟩;simp;rw[zd0,hz,h1];rw[yfs]at h4;rw[ygu (by omega),h4]
theorem z1f(a:List UInt32)(k:Nat)(hl:a.length<=1073741824)(hk:k<4294967296):Sp P F.j0 [.sl (ens a),.int .i64 k] (.pure (.sl (ens (lb (val a / 2^k))))):=by
 refine Sp.vz c.j0 fun _=>?_;obtain⟨q,hq⟩:∃ q,k / 32=q:=⟨_,rfl⟩;obtain⟨s,hs⟩:∃ s,k % 32=s:=⟨_,rfl⟩;have e0:IntKind.i64.wrap ((k:Int) / 32)=(q:Int):=by rw[i64w (by omega) (by omega)];omega
 simp[g.j0];rw[e0];obtain⟨A,hA⟩:∃ A,A=val (a.drop q) / 2^s:=⟨_,rfl⟩
 refine zaj (S:=fun x:Nat × List UInt32=>mkSt [(0,.p (.sl (ens a))),(1,.p (.int .i64 k)),(5,.own 1 0 0 x.1),(6,.p (.int .i64 ((q:Int)+x.1)))] [(1,⟨1,avs x.2⟩)])
  (I:=fun x=>x.2.length=x.1/\(q+x.1<=a.length\/x.1=0)/\val x.2=A % 4294967296^x.1) (m:=fun x=>a.length - (q+x.1)) (0,[]) (Weak.nl 5 1 1 rfl (Weak.to [0,1,5,6] [((1,0),1)] (by simp))) ⟨rfl,by simp,by simp[Nat.mod_one]⟩ ?_
 rintro⟨j,out⟩ ⟨h1,h2,h3⟩ R hn hr hx;simp at h1 h2 h3;simp[g.qi];have es:((k:Int)).tmod 32=(s:Int):=by rw[<- hs];exact z0s k 32
 have e4:s.min 64=s:=yhj (by omega);have hs2:=zgf (s:=s) (by omega);refine⟨fun h=>?_,fun h=>?_⟩
 ·have ew:IntKind.i64.wrap ((q:Int)+j+1)=(q:Int)+j+1:=by rw[i64w (by omega) (by omega)]
  have ei:((q:Int)+j+1).toNat=q+j+1:=by omega
  have ei':((q:Int)+j).toNat=q+j:=by omega
  rw[ew];refine zab (zi2 _ _ (by omega)) rfl ?_;simp;refine zab (zi2 _ _ (by omega)) rfl ?_;simp;rw[es,ei,ei',i64w (by omega) (by omega)];have d1:=zha a (q+j);have d2:=zha a (q+j+1);have u1:=za0 (a.getD (q+j) 0);have u2:=za0 (a.getD (q+j+1) 0);simp only[yfj]at d1 d2 u1 u2;generalize (a[q+j]?.getD 0).toNat=x at d1 u1 ⊢;generalize (a[q+j+1]?.getD 0).toNat=y at d2 u2 ⊢;have ho:=zxj (r:=y) (x:=x) (k:=32) (by omega) (by omega) (by omega);simp only[show(2:Int)^32=4294967296 from rfl,show(2:Nat)^32=4294967296 from rfl]at ho;rw[ho,yh4,e4];obtain⟨z,hz⟩:∃ z:UInt32,z.toNat=(y*4294967296+x) / 2^s % 4294967296:=⟨_,zav _⟩;have e7:((y*4294967296+x:Nat):Int) / 2^s % 4294967296=(z.toNat:Int):=by rw[hz];simp
  rw[e7];refine⟨by omega,by omega,hn (j+1,out++[z]) _ (Weak.to [0,1,5,6] [((30,0),1)] (by simp;omega)) ⟨by simp[h1],by simp;omega,?_⟩ (by simp;omega)⟩;simp;have ed:A / 4294967296^j=val (a.drop (q+j)) / 2^s:=by rw[hA,yhb,yfy,<- Nat.div_div_eq_div_mul,znj,ygp]
  rw[zd0,h1,h3,hz,Nat.mod_pow_succ,ed,d1,d2,zre _ _ _ _ (by omega)]
 ·refine hx _ _ ?_;simp;refine zab (zc0 out) (zb5 (zdt rfl rfl h1.symm) zcw) ?_;simp;have:val a / 2^k=A:=by rw[zcr k,hq,hs,<- Nat.div_div_eq_div_mul,znj,hA]
  rw[this,h3,ygu];have h5:=zb3 (a.drop q);rw[yhk]at h5;refine yh2 (hA ▸ yhv _ _) (yfo h5 (yg6 (by omega) (by omega)))
open Enc (enc)
def idxI{α : Type}(p : α -> Bool)(l:List α):Int:=match l.findIdx? p with|some i=>i|none => -1
section
variable {α : Type} {p : α -> Bool} {l:List α}
theorem zlk(h:∀ x∈l,p x=false):idxI p l = -1:=by unfold idxI;rw[yk4.2 h]
theorem zrw{k:Nat}(hk:k<l.length)(h:∀ x∈l.take k,p x=false)(h2:p l[k]=true):idxI p l=k:=by
 unfold idxI;have:l.findIdx? p=some k:=by rw[yk5];refine⟨hk,h2,fun j hj=>?_⟩;have:=h l[j] (by rw[List.mem_take_iff_getElem];exact⟨j,by omega,rfl⟩);simp[this]
 rw[this]
theorem zhq:(decide (0<=idxI p l))=l.any p:=by
 unfold idxI;cases h:l.findIdx? p with
 | none =>
  have:=yk4.1 h;simp;exact fun x hx=>this x hx
 | some i =>
  obtain⟨h1,h2,_⟩:=yk5.1 h;simp;exact⟨l[i],yfi _,h2⟩
end
theorem zfm(st:St)(l:List PV):(l.map AV.p).mapM (toPV st FUEL)=some l:=zyc 5 st l
theorem Sp.nilcase{P:Program}{f:FuncId}{r:RV}(h1:Sp P f [.nl] r)(h2:Sp P f [.sle] r):Sp P f [.sl []] r:=by
 refine⟨h1.1,fun w M vals hM hv=>?_⟩;cases hv with
 | cons _ x _ xs hx hxs =>
  cases hxs;cases hx with
  | sl0 a cap =>
   cases a with
   | none=>exact h1.2 w M _ hM (.cons _ _ _ _ (.nl cap) .nil)
   | some a=>exact h2.2 w M _ hM (.cons _ _ _ _ (.sle a cap) .nil)
  | sl _ b o cap=>exact h2.2 w M _ hM (.cons _ _ _ _ (.sle _ cap) .nil)
end Go.Ab
namespace Go.Ab
open Enc (enc)
attribute [local simp] zai Opd.slots
def zc4(n:Nat):Nat:=if n=0 then 0 else Nat.log2 n+1
def len8:List UInt8:=[0,1,2,2,3,3,3,3,4,4,4,4,4,4,4,4,5,5,5,5,5,5,5,5,5,5,5,5,5,5,5,5,6,6,6,6,6,6,6,6,6,6,6,6,6,6,6,6,6,6,6,6,6,6,6,6,6,6,6,6,6,6,6,6,7,7,7,7,7,7,7,7,7,7,7,7,7,7,7,7,7,7,7,7,7,7,7,7,7,7,7,7,7,7,7,7,7,7,7,7,7,7,7,7,7,7,7,7,7,7,7,7,7,7,7,7,7,7,7,7,7,7,7,7,7,7,7,7]++List.replicate 128 8
theorem z17:∀ n,n<256->len8[n]?=some (UInt8.ofNat (zc4 n)):=by decide +kernel
theorem zg7{n m:Nat}:zc4 n<=m ↔ n<2^m:=by
 unfold zc4;split
 ·rename_i h;subst h;simp[Nat.two_pow_pos]
 ·rename_i h;rw[<- Nat.log2_lt h];omega
theorem zid{n k:Nat}(h:2^k<=n):zc4 n=k+zc4 (n / 2^k):=by
 have key:∀ m,zc4 n<=m ↔ k+zc4 (n / 2^k)<=m:=by
  intro m;rw[zg7];by_cases hm:k<=m
  ·have:k+zc4 (n / 2^k)<=m ↔ zc4 (n / 2^k)<=m - k:=by omega
   rw[this,zg7,yi5 (Nat.two_pow_pos k),<- Nat.pow_add,Nat.sub_add_cancel hm]
  ·have:2^m<=2^k:=yg6 (by omega) (by omega);constructor
   ·intro h2;omega
   ·intro h2;omega
 have h1:=(key (zc4 n)).1 (yf8 _);have h2:=(key (k+zc4 (n / 2^k))).2 (yf8 _);omega
theorem z6v(n:Nat)(h:n<256):∃ b:UInt8,len8[n]?=some b/\b.toNat=zc4 n:=by refine⟨_,z17 n h,?_⟩;have:zc4 n<=8:=zg7.2 (by omega);simp[UInt8.toNat_ofNat'];omega
theorem zts:(bya [0,1,2,2,3,3,3,3,4,4,4,4,4,4,4,4,5,5,5,5,5,5,5,5,5,5,5,5,5,5,5,5,6,6,6,6,6,6,6,6,6,6,6,6,6,6,6,6,6,6,6,6,6,6,6,6,6,6,6,6,6,6,6,6,7,7,7,7,7,7,7,7,7,7,7,7,7,7,7,7,7,7,7,7,7,7,7,7,7,7,7,7,7,7,7,7,7,7,7,7,7,7,7,7,7,7,7,7,7,7,7,7,7,7,7,7,7,7,7,7,7,7,7,7,7,7,7,7,8,8,8,8,8,8,8,8,8,8,8,8,8,8,8,8,8,8,8,8,8,8,8,8,8,8,8,8,8,8,8,8,8,8,8,8,8,8,8,8,8,8,8,8,8,8,8,8,8,8,8,8,8,8,8,8,8,8,8,8,8,8,8,8,8,8,8,8,8,8,8,8,8,8,8,8,8,8,8,8,8,8,8,8,8,8,8,8,8,8,8,8,8,8,8,8,8,8,8,8,8,8,8,8,8,8,8,8,8,8,8,8,8,8,8,8,8,8,8,8,8,8,8,8,8,8,8,8]).data.toList=len8:=by decide +kernel
theorem zyk(x:UInt32):Sp P F.d9 [.int .u32 x.toNat] (.pure (.int .i64 (zc4 x.toNat))):=by
 have hx:=x.toNat_lt;generalize x.toNat=n at *
 have fin:∀ (m k:Nat),m<256->zc4 n=k+zc4 m->∀ (z:Int),z=m->∃ e,len8[z.toNat]?=some e/\(0<=z)/\IntKind.i64.wrap (e.toNat:Int)=e.toNat/\∀ k':Int,k'=k->IntKind.i64.wrap (k'+e.toNat)=(zc4 n:Nat):=by intro m k hm hk z hz;subst hz;obtain⟨b,h1,h2⟩:=z6v m hm;have:zc4 m<=8:=zg7.2 (by omega);have hn:zc4 n<=32:=zg7.2 (by omega);exact⟨b,by simpa using h1,by omega,i64w (by omega) (by omega),fun k' hk'=>by rw[i64w (by omega) (by omega)];omega⟩
 refine Sp.vz c.d9 fun _=>?_;simp[g.d9,zts];refine⟨fun h1=>⟨fun h2=>?_,fun h2=>?_⟩,fun h1=>⟨fun h2=>?_,fun h2=>?_⟩⟩
 ·have e1:zc4 n=24+zc4 (n / 65536 / 256):=by have a1:=zid (n:=n) (k:=16) (by omega);have a2:=zid (n:=n / 2^16) (k:=8) (by omega);simp only[Nat.reducePow]at a1 a2;omega
  obtain⟨e,h3,h4,h5,h6⟩:=fin (n / 65536 / 256) 24 (by omega) e1 ((n:Int) / 65536 / 256 % 256) (by omega);rw[zeb];refine⟨e,h3,?_⟩;have e24:IntKind.i64.wrap 24=24:=i64w (by omega) (by omega);simp[h4,e24,h5,h6 24 rfl]
 ·have e1:zc4 n=16+zc4 (n / 65536):=zid (n:=n) (k:=16) (by omega);obtain⟨e,h3,h4,h5,h6⟩:=fin (n / 65536) 16 (by omega) e1 ((n:Int) / 65536 % 256) (by omega);rw[zeb];refine⟨e,h3,?_⟩;simp[h4,h5,h6 16 rfl]
 ·have e1:zc4 n=8+zc4 (n / 256):=zid (n:=n) (k:=8) (by omega);obtain⟨e,h3,h4,h5,h6⟩:=fin (n / 256) 8 (by omega) e1 ((n:Int) / 256 % 256) (by omega);rw[zeb];refine⟨e,h3,?_⟩;have e8:IntKind.i64.wrap 8=8:=i64w (by omega) (by omega);simp[h4,e8,h5,h6 8 rfl]
 ·obtain⟨e,h3,h4,h5,h6⟩:=fin n 0 (by omega) (by omega) ((n:Int) % 256) (by omega);have h7:=h6 0 rfl;rw[Int.zero_add,h5]at h7;have hn:zc4 n<=32:=zg7.2 (by omega);have h8:IntKind.i64.wrap ((zc4 n:Nat):Int)=(zc4 n:Nat):=i64w (by omega) (by omega);rw[zeb];refine⟨e,h3,?_⟩;simp[h4,h7,h8]
theorem z2e(l:List Int)(f:FuncId)(caps:List PV)(p:Int->Bool)(hl:l.length<=4611686018427387904)(hf:∀ x∈l,Sp P f (enc x::caps) (.pure (.bool (p x)))) :
  Sp P F.ko [.sl (ens l),.fn f caps] (.pure (.int .i64 (idxI p l))):=by
 refine Sp.vz c.ko fun _=>?_;simp[g.ko]
 refine zaj (S:=fun k:Nat=>mkSt [(0,.p (.sl (ens l))),(1,.p (.fn f caps)),(7,.p (.int .i64 l.length)),(8,.p (.int .i64 k))] []) (I:=fun k=>k<=l.length/\∀ x∈l.take k,p x=false) (m:=fun k=>l.length - k) 0
  (Weak.to [0,1,7,8] [] (by simp)) ⟨by omega,by simp⟩ ?_
 rintro k ⟨h1,h2⟩ R hn hr hx;have e1:=i64s k;simp[g.qq,mkSt];refine⟨fun hk=>?_,fun hk=>hx _ _ ?_⟩
 ·refine zad hk ?_
  try simp
  refine zaa (hf l[k] (yfi hk)) (zb5 rfl (zfm _ _)) ?_;rcases yge (p l[k])with h3|h3
  ·simp[h3];refine hr _ ?_;simp[zrw hk h2 h3]
  ·simp[h3,e1];refine hn (k+1) _ (Weak.to [0,1,7,8] [] (by simp)) ⟨by omega,fun x hx=>?_⟩ (by omega);rw[yfu hk]at hx;rcases yfk.1 hx with hx|hx
   ·exact h2 x hx
   ·simp at hx;rw[hx];exact h3
 ·have:k=l.length:=by omega
  subst this;simp[zlk (p:=p) (l:=l) (by simpa using h2)]
theorem z65(l:List Int)(f:FuncId)(caps:List PV)(p:Int->Bool)(hl:l.length<=4611686018427387904)(hf:∀ x∈l,Sp P f (enc x::caps) (.pure (.bool (p x)))) :
  Sp P F.j9 [.sl (ens l),.fn f caps] (.pure (.bool (l.any p))):=by
 refine Sp.vz c.j9 fun _=>?_;simp[g.j9];refine zaa (z2e l f caps p hl hf) rfl ?_;simp[zhq]
theorem zox(l:List UInt32)(hl:l.length<=2147483648):Sp P F.ar [.sl (ens l)] (.pure (.sl (ens l))):=by
 cases l with
 | nil =>
  refine Sp.nilcase ?_ ?_
  ·refine Sp.vz c.ar fun _=>?_;simp[g.ar]
  ·refine Sp.vz c.ar fun _=>?_;simp[g.ar,LIM]
 | cons x l =>
  refine Sp.vz c.ar fun _=>?_;simp at hl;simp[g.ar,LIM,hl]
theorem zvr(l:List Int)(hl:l.length<=2147483648):Sp P F.am [.sl (ens l)] (.pure (.sl (ens l))):=by
 cases l with
 | nil =>
  refine Sp.nilcase ?_ ?_
  ·refine Sp.vz c.am fun _=>?_;simp[g.am]
  ·refine Sp.vz c.am fun _=>?_;simp[g.am,LIM]
 | cons x l =>
  refine Sp.vz c.am fun _=>?_;simp at hl;simp[g.am,LIM,hl]
end Go.Ab
namespace Go.Ab
def blen(n:Nat):Nat:=if n=0 then 0 else Nat.log2 n+1
theorem zz4{x:Nat}(h:x<4294967296):blen x<=32:=by
 unfold blen;split
 ·omega
 ·have:=(Nat.log2_lt (n:=x) (k:=32) (by assumption)).2 h;omega
theorem z3t{x:Nat}(h:x≠0):1<=blen x:=by unfold blen;rw[yf0 h];omega
theorem z18(x:UInt32):Sp P F.d9 [.int .u32 x.toNat] (.pure (.int .i64 (blen x.toNat))):=zyk x
theorem zjk(l:List UInt32)(hl:l.length<=2147483648):Sp P F.ar [.sl (ens l)] (.pure (.sl (ens l))):=zox l hl
theorem ydv(x:UInt32):Sp P F.kf [.int .u32 x.toNat] (.pure (.int .i64 (32 - blen x.toNat:Int))):=by refine Sp.vz c.kf fun _=>?_;have:=zz4 (za0 x);simp[g.kf];refine zab (z18 x) rfl ?_;simp;rw[i64w (by omega) (by omega)]
theorem zyi(a:List UInt32)(hl:a.length<=16777216)(h0:a≠[])(hc:zbi a):∃ s:Nat,s<=31/\Sp P F.jz [.sl (ens a)] (.pure (.int .i64 (32*a.length - s:Int))):=by
 have hp:0<a.length:=yih.2 h0;have hx:a[a.length - 1].toNat≠0:=fun h=>hc (by
  rw[List.getLast?_eq_getElem?,List.getElem?_eq_getElem (by omega)];exact congrArg some (zhc (by simpa using h)))
 have h1:=zz4 (za0 a[a.length - 1]);have h2:=z3t hx;refine⟨32 - blen a[a.length - 1].toNat,by omega,?_⟩;refine Sp.vz c.jz fun _=>?_;have e0:IntKind.i64.wrap ((a.length:Int) - 1)=(a.length:Int) - 1:=i64w (by omega) (by omega);have e1:IntKind.i64.wrap (32*(a.length:Int))=32*(a.length:Int):=i64w (by omega) (by omega);have e2:((a.length:Int) - 1).toNat=a.length - 1:=by omega
 simp[g.jz,h0,e0,e1,e2];refine zad (by omega) ⟨by omega,zab (ydv _) rfl ?_⟩;simp;rw[i64w (by omega) (by omega)];omega
theorem zrj(a b:List UInt32)(hl:a.length<=4194304)(hl2:b.length<=4194304)(hb:val b≠0)(hcb:zbi b):Sp P F.fm [.sl (ens a),.sl (ens b)] (.pure (.tup [.sl (ens (lb (val a / val b))),.sl (ens (lb (val a % val b)))])):=by
 refine Sp.vz c.fm fun _=>?_;have h0:b≠[]:=fun h=>hb (by rw[h];rfl);obtain⟨s,hs,hlen⟩:=zyi b (by omega) h0 hcb;have e1:IntKind.i64.wrap (32*(b.length:Int))=32*(b.length:Int):=i64w (by omega) (by omega);simp[g.fm,e1];refine⟨fun h1=>?_,fun h1=>?_⟩
 ·obtain⟨d,rfl⟩:∃ d,b=[d]:=List.length_eq_one_iff.1 (by omega);simp at hb;refine zad (by simp) ?_;have hd:d≠0:=fun h=>hb (by rw[h];rfl);refine zab (z02 a d (by omega) hd) (by simp) ?_;simp;have e7:((val a:Int) % d.toNat)=((UInt32.ofNat (val a % d.toNat)).toNat:Int):=by have:=ygq (val a) (y:=d.toNat) (by omega);have:=za0 d;rw[zav,ygu (by omega)];simp
  rw[e7];generalize hz:UInt32.ofNat (val a % d.toNat)=z;refine zab (zc0 [z]) (zb5 (zdt rfl (by simp) (by simp)) zcw) ?_;simp;have:=ygq (val a) (y:=d.toNat) (by omega);have:=za0 d;rw[<- hz,zav,ygu (a:=val a % d.toNat) (by omega)]
 ·have hV0:val b*2^s≠0:=Nat.mul_ne_zero hb (Nat.pos_iff_ne_zero.1 (ygs (by omega)));have hs2:=zgf (s:=s) (by omega);have hnu:=zau (n:=val a*2^s) (k:=a.length+1) (by rw[yfn];exact yhc (zb3 a) (by omega));have hnv:=zau (n:=val b*2^s) (k:=b.length+1) (by rw[yfn];exact yhc (zb3 b) (by omega));have hnv0:=zis hV0;have hU1:=zhp (val a*2^s);have hV1:=zld hV0;have hfin:val a / val b=val a*2^s / (val b*2^s)/\val a % val b=val a*2^s % (val b*2^s) / 2^s:=by have hp:0<2^s:=ygs (by omega);rw[Nat.mul_mod_mul_right,Nat.mul_div_cancel _ hp,Nat.mul_div_mul_right _ _ hp];exact⟨rfl,rfl⟩
  refine zab hlen rfl ?_;have e3:IntKind.i64.wrap (32*(b.length:Int) - (32*b.length - s))=s:=by rw[i64w (by omega) (by omega)];omega
  simp[e3];refine zab (zoe a s (by omega)) rfl ?_;simp;refine zab (zoe b s (by omega)) rfl ?_;simp;rw[hfin.1,hfin.2];generalize val a*2^s=U0 at *
  generalize val b*2^s=V at *
  obtain⟨nu,hnu'⟩:∃ n,(lb U0).length=n:=⟨_,rfl⟩;obtain⟨nv,hnv'⟩:∃ n,(lb V).length=n:=⟨_,rfl⟩;rw[hnu',hnv'];rw[hnu']at hU1 hnu;rw[hnv']at hV1 hnv0 hnv;obtain⟨K,hK⟩:∃ K,K=nu+1 - nv:=⟨_,rfl⟩;have e4:IntKind.i64.wrap (IntKind.i64.wrap ((nu:Int) - nv)+1)=(nu:Int) - nv+1:=by rw[i64w (n:=(nu:Int) - nv) (by omega) (by omega),i64w (by omega) (by omega)]
  have e5:(if 0<(nu:Int) - nv+1 then(nu:Int) - nv+1 else 0)=(K:Int):=by split<;>omega
  rw[e4,e5];simp only[yh4];have e6:IntKind.i64.wrap (max (K:Int) 0 - 1)=(K:Int) - 1:=by rw[i64w (by omega) (by omega)];omega
  rw[e6];have hp:∀ k,0<4294967296^k:=fun k=>ygs (by omega);have hVp:0<V:=by omega
  refine⟨⟨by omega,by omega⟩,zaj (S:=fun x:Nat × Nat × List UInt32=>mkSt [(4,.own 1 0 0 K),(8,.p (.int .i64 s)),(9,.p (.sl (ens (lb x.2.1)))),(10,.p (.sl (ens (lb V)))),(11,.p (.int .i64 ((x.1:Int) - 1)))] [(1,⟨1,avs (List.replicate x.1 (0:UInt32)++x.2.2)⟩)])
   (I:=fun x=>x.1+x.2.2.length=K/\x.2.1<V*4294967296^x.1/\U0=x.2.1+V*4294967296^x.1*val x.2.2) (m:=fun x=>x.1) (K,U0,[])
   (Weak.to [4,8,9,10,11] [((49,0),1)] (by simp)) ⟨by simp,?_,by simp⟩ ?_⟩
  ·simp;refine yfo hU1 ?_;rcases yg1 (nu+1) nv with h|h
   ·rw[show K=0 by omega];simp;exact yf7 (yg6 (by omega) (by omega)) hV1
   ·refine yf7 ?_ (yg7 _ hV1);rw[<- Nat.pow_add];exact yg6 (by omega) (by omega)
  rintro⟨k,U,hi⟩ ⟨h1,h2,h3⟩ R hn hr hx;simp at h1 h2 h3;rcases k with _|i
  ·simp[g.ol];refine hx _ _ ?_;simp at h1 h2 h3;simp;refine zab (zc0 hi) (zb5 (zdt rfl (by simp) (by omega)) zcw) ?_;simp;refine zab (z1f (lb U) s (by have:=zau (n:=U) (k:=nv) (Nat.lt_trans h2 (by rw[<- hnv'];exact zhp V));omega) (by omega)) (by simp) ?_;simp;have q1:U0 / V=val hi:=by rw[h3,yjk _ _ hVp,yhu h2];omega
   have q2:U0 % V=U:=by rw[h3,yk2,ygu h2]
   rw[q1,q2];exact⟨rfl,rfl⟩
  ·have en:IntKind.i64.wrap ((i:Int)+nv)=(i:Int)+nv:=i64w (by omega) (by omega);have en1:IntKind.i64.wrap ((i:Int)+nv - 1)=(i:Int)+nv - 1:=i64w (by omega) (by omega);have env:IntKind.i64.wrap ((nv:Int) - 1)=(nv:Int) - 1:=i64w (by omega) (by omega);have t0:((i:Int)+nv).toNat=i+nv:=by omega
   have t1:((i:Int)+nv - 1).toNat=i+nv - 1:=by omega
   have t2:((nv:Int) - 1).toNat=nv - 1:=by omega
   have hUn:U<4294967296^(i+nv - 1+2):=by refine yfo h2 ?_;have:=zhp V;rw[hnv']at this;rw[show i+nv - 1+2=nv+(i+1) by omega,yg9 (m:=nv)];exact yg7 _ (Nat.le_of_lt this)
   have hd2:=zus hUn;rw[show i+nv - 1+1=i+nv by omega]at hd2;have htop:=zwa hV0;rw[hnv']at htop;have hge:=z2g (i:=i) hV1 hnv0 h2;simp[g.ol,hnv',en];refine zab (zi2 _ _ (by omega)) rfl ?_;simp[en1];refine zab (zi2 _ _ (by omega)) rfl ?_;simp[env,hnv'];refine zab (zi2 _ _ (by omega)) rfl ?_;simp[t0,t2];have u1:=za0 ((lb U).getD (i+nv) 0);have u2:=za0 ((lb U).getD (i+nv - 1) 0);simp only[yfj]at hd2 htop u1 u2;rw[htop.1];generalize ((lb U)[i+nv]?.getD 0).toNat=x at hd2 u1 ⊢;generalize ((lb U)[i+nv - 1]?.getD 0).toNat=y at hd2 u2 ⊢;have ho:=zxj (r:=x) (x:=y) (k:=32) (by omega) (by omega) (by omega);simp only[show(2:Int)^32=4294967296 from rfl,show(2:Nat)^32=4294967296 from rfl]at ho;have hlt2:U / 4294967296^(i+nv - 1)<18446744073709551616:=by omega
   rw[ho,hd2,z9a];have hE:U / 4294967296^(i+nv - 1) / (V / 4294967296^(nv - 1))<18446744073709551616:=yh2 (yhv _ _) (by omega);generalize U / 4294967296^(i+nv - 1) / (V / 4294967296^(nv - 1))=E at hE hge ⊢;obtain⟨G,hG⟩:∃ G,G=min E 4294967295:=⟨_,rfl⟩;have eG:(if (4294967295:Int)<(E:Int) % 18446744073709551616 then(4294967295:Int)else(E:Int) % 18446744073709551616)=(G:Int):=by split<;>omega
   rw[eG];rw[<- hG]at hge;obtain⟨z,hz⟩:∃ z:UInt32,z.toNat=G:=⟨UInt32.ofNat G,by rw[zav];omega⟩;have ez:(G:Int) % 4294967296=(z.toNat:Int):=by omega
   rw[ez];have ht0:¬ (V / 4294967296^(nv - 1)=0):=by omega
   refine⟨ht0,zab (zc0 [z]) (zb5 (zdt rfl (by simp) (by simp)) zcw) ?_⟩;have ei:IntKind.i64.wrap (32*(i:Int))=((32*i:Nat):Int):=by rw[i64w (by omega) (by omega)];omega
   have hzl:=zau (n:=z.toNat) (k:=1) (by have:=za0 z;omega);simp;refine zab (zju (lb V) (lb z.toNat) (by omega) (by omega)) (by simp) ?_;simp[ei];have hVz:=zau (n:=V*z.toNat) (k:=nv+1) (by rw[yfn];exact yhc (by rw[<- hnv'];exact zhp V) (za0 z));refine zab (zoe (lb (V*z.toNat)) (32*i) (by omega)) (by simp) ?_;simp[z4c];have hd1:U / (V*4294967296^i)<=z.toNat:=by omega
   refine zaj (S:=fun g:Nat=>mkSt [(4,.own 1 0 0 K),(8,.p (.int .i64 s)),(9,.p (.sl (ens (lb U)))),(10,.p (.sl (ens (lb V)))),(11,.p (.int .i64 i)),(13,.p (.int .u64 g)),(14,.p (.sl (ens (lb (V*g*4294967296^i)))))] [(1,⟨1,avs (List.replicate (i+1) (0:UInt32)++hi)⟩)])
    (I:=fun g=>U / (V*4294967296^i)<=g/\g<=4294967295) (m:=fun g=>g) G (Weak.to [4,8,9,10,11,13,14] [((1,0),1)] (by simp[hz])) ⟨by omega,by omega⟩ ?_
   rintro gu ⟨g1,g2⟩ R2 hn2 hr2 hx2;simp[g.px];refine zab (zlw (lb U) (lb (V*gu*4294967296^i))) rfl ?_;simp only[zmd,go_sem]at *
   simp[z3i];have hPi:0<V*4294967296^i:=Nat.mul_pos hVp (hp i);have eg:V*gu*4294967296^i=gu*(V*4294967296^i):=by rw[yfy V gu,yfv]
   refine⟨fun hlt=>?_,fun hge2=>?_⟩
   ·have hg0:U / (V*4294967296^i)<gu:=by rw[yi5 hPi,<- eg];exact hlt
    have hgp:0<gu:=yh2 (yg4 _) hg0;obtain⟨g',rfl⟩:∃ g',gu=g'+1:=⟨gu - 1,by clear hg0 hge g1;omega⟩;simp only[ei];refine zab (zoe (lb V) (32*i) (by omega)) (by simp) ?_;simp[z4c];have hlen2:=zau (n:=V*(g'+1)*4294967296^i) (k:=nv+1+i) (by
     rw[yg9,yfn];exact Nat.mul_lt_mul_of_pos_right (yhc (by rw[<- hnv'];exact zhp V) (by omega)) (hp i))
    have hle3:V*4294967296^i<=V*(g'+1)*4294967296^i:=by rw[eg];exact Nat.le_mul_of_pos_left _ (by omega)
    refine zab (zj2 (lb (V*(g'+1)*4294967296^i)) (lb (V*4294967296^i)) (by omega) (by simpa using hle3)) (by simp) ?_;simp;refine hn2 g' _ (Weak.to [4,8,9,10,11,13,14] [((1,0),1)] ?_) ⟨Nat.le_of_lt_succ hg0,by clear hg0 hge g1;omega⟩ (by simp);have e9:((g':Int)+1 - 1) % 18446744073709551616=g':=by omega
    have e10:V*(g'+1)*4294967296^i - V*4294967296^i=V*g'*4294967296^i:=by rw[Nat.mul_succ,ygf];omega
    simp[e10];omega
   ·refine hx2 _ _ ?_;have hgd:gu=U / (V*4294967296^i):=by
     have:gu<=U / (V*4294967296^i):=by rw[yk3 hPi,<- eg];exact hge2
     omega
    simp;have hUl:=zau (n:=U) (k:=nv+(i+1)) (Nat.lt_of_lt_of_le h2 (by rw[Nat.pow_add (m:=nv)];exact Nat.mul_le_mul_right _ (Nat.le_of_lt (by rw[<- hnv'];exact zhp V))));refine zab (zj2 (lb U) (lb (V*gu*4294967296^i)) (by omega) (by simpa using hge2)) (by simp) ?_;simp;refine⟨⟨by omega,by omega⟩,?_⟩;rw[zeb];refine zad (by simp;omega) ?_;simp;obtain⟨z',hz'⟩:∃ z':UInt32,z'.toNat=gu:=⟨UInt32.ofNat gu,by rw[zav];omega⟩;have ez':(gu:Int) % 4294967296=(z'.toNat:Int):=by omega
    have ei2:IntKind.i64.wrap ((i:Int) - 1)=(i:Int) - 1:=i64w (by omega) (by omega);rw[ez',ei2];have hset:(List.replicate (i+1) (AV.p (.int .u32 0))).set i (AV.p (.int .u32 z'.toNat))=List.replicate i (AV.p (.int .u32 0))++[AV.p (.int .u32 z'.toNat)]:=by rw[yj5,yk6 _ _ (by simp)];simp
    refine hn (i,U - V*gu*4294967296^i,z'::hi) _ (Weak.to [4,8,9,10,11] [((1,0),1)] (by simp[hset])) ⟨by simp;omega,?_,?_⟩ (by simp)
    ·simp only;rw[eg,hgd];have:=yj4 U (V*4294967296^i);have h9:=ygq U hPi;rw[yfy]at this;omega
    ·simp only[zbo,hz'];rw[h3,yg5,<- Nat.mul_assoc,yfn,eg];rw[eg]at hge2;have e11:V*4294967296^i*gu=gu*(V*4294967296^i):=yfy _ _;have e12:V*(4294967296^i*4294967296)=V*4294967296^i*4294967296:=by rw[yfv]
     rw[e11,e12];omega
open Enc (enc)
structure GRat where
 neg:Bool
 num:List UInt32
 den:List UInt32
instance:Enc GRat:=⟨fun x=>.agg [.bool x.neg,.sl (ens x.num),.sl (ens x.den)],3,by decide,fun _=>rfl⟩
@[simp] theorem zou(x:GRat):enc x=.agg [.bool x.neg,.sl (ens x.num),.sl (ens x.den)]:=rfl
@[simp] theorem yaj:Enc.sz GRat=3:=rfl
instance (l:List UInt32):Decidable (zbi l):=inferInstanceAs (Decidable (¬ _))
def GRat.valid(x:GRat):Bool :=
 decide (zbi x.num)&&decide (zbi x.den)&&(if x.num=[]then !x.neg&&decide (x.den=[])else decide (x.den=[]\/(val x.den≠1/\Nat.gcd (val x.num) (val x.den)=1)))
def GRat.sm(x:GRat)(n:Nat):Prop:=x.num.length<=n/\x.den.length<=n
@[simp] theorem ybe:zbi []:=by simp[zbi]
theorem z4n(a b:List UInt32)(hl:a.length<=4194304)(hl2:b.length<=4194304)(ha:zbi a)(hb:zbi b):Sp P F.fk [.sl (ens a),.sl (ens b)] (.pure (.sl (ens (lb (Nat.gcd (val a) (val b)))))):=by
 refine Sp.vz c.fk fun _=>?_;simp[g.fk];refine zaj (S:=fun x:List UInt32 × List UInt32=>mkSt [(0,.p (.sl (ens x.1))),(1,.p (.sl (ens x.2)))] []) (I:=fun x=>x.1.length<=4194304/\x.2.length<=4194304/\zbi x.1/\zbi x.2/\Nat.gcd (val x.1) (val x.2)=Nat.gcd (val a) (val b)) (m:=fun x=>val x.2) (a,b) (Weak.of (keep:=[0,1]) (ids:=[]) rfl) ⟨hl,hl2,ha,hb,rfl⟩ ?_;rintro⟨x,y⟩ ⟨h1,h2,h3,h4,h5⟩ R hn hr hx;simp at h1 h2 h3 h4 h5;simp[g.pq];refine⟨fun h=>?_,fun h=>hx _ _ ?_⟩
 ·have hy:val y≠0:=fun h0=>by rw[<- zca h4,h0]at h;simp at h
  refine zab (zrj x y h1 h2 hy h4) rfl ?_;simp;have hlt:=Nat.mod_lt (val x) (Nat.pos_of_ne_zero hy);have hlen:=zau (Nat.lt_trans hlt (zb3 y));refine hn (y,lb (val x % val y)) _ (Weak.of (keep:=[0,1]) (ids:=[]) rfl) ⟨h2,by simp only;omega,h4,zbp _,?_⟩ (by simpa using hlt);simp only[zmd];rw[<- h5,Nat.gcd_comm (val x),Nat.gcd_rec (val y) (val x),Nat.gcd_comm]
 ·subst h;simp at h5;simp;rw[<- h5,zca h3]
theorem zkz:Sp P F.dh [] (.pure (.sl (ens [(1:UInt32)]))):=by refine Sp.vz c.dh fun _=>?_;simp[g.dh]
theorem zpw(a:List UInt32):Sp P F.j3 [.sl (ens a)] (.pure (.bool (decide (zbi a)))):=by
 refine Sp.vz c.j3 fun hs=>?_;have hl:=zk0 hs.1;have e:IntKind.i64.wrap (↑a.length - 1) = ↑a.length - 1:=i64w (by omega) (by omega);have e2:((a.length:Int) - 1).toNat=a.length - 1:=by omega
 simp[g.j3,e,e2];refine⟨fun h=>by subst h;simp[zbi],fun h=>?_⟩;have hp:=List.length_pos_iff.2 h;refine zad (by omega) ⟨by omega,?_⟩;have hx:(a[a.length - 1].toNat=0) ↔ ¬ zbi a:=by simp only[zbi,List.getLast?_eq_getElem?,List.getElem?_eq_getElem (show a.length - 1<a.length by omega)];simp;exact⟨fun h=>zhc (by simpa using h),fun h=>by rw[h];rfl⟩
 by_cases hc:zbi a<;>simp[hc,hx]
theorem zkn(x:GRat)(hx:x.sm 4194304):Sp P F.di [enc x] (.pure (.bool x.valid)):=by
 obtain⟨h1,h2⟩:=hx;refine Sp.vz c.di fun _=>?_;simp[g.di];refine zab (zpw x.num) rfl ?_;simp;refine⟨fun h3=>?_,fun h3=>?_⟩
 ·refine zab (zpw x.den) rfl ?_;simp;refine⟨fun h4=>?_,fun h4=>?_⟩
  ·refine⟨fun h5=>?_,fun h5=>⟨fun h6=>?_,fun h6=>?_⟩⟩
   ·rw[zf5];refine⟨fun h6=>?_,fun h6=>?_⟩
    ·simp[GRat.valid,h4,h5,h6]
    ·simp[GRat.valid,h4,h5,h6]
   ·simp[GRat.valid,h3,h5,h6]
   ·refine zah zkz zcw ?_;simp;refine zah (zlw x.den [1]) rfl ?_;simp[zgu];refine⟨fun h7=>?_,fun h7=>?_⟩
    ·simp[GRat.valid,h3,h4,h5,h6,h7]
    ·refine zah (z4n x.num x.den h1 h2 h3 h4) rfl ?_;simp;refine zah zkz zcw ?_;simp;refine zah (zlw _ [1]) rfl ?_;simp[zgu];simp[GRat.valid,h3,h4,h5,h6,h7]
  ·simp[GRat.valid,h3,h4]
 ·simp[GRat.valid,h3]
def sgn(neg:Bool)(n:Nat):Int:=if neg then -(n:Int)else n
def GRat.v(x:GRat):Rat:=if x.valid then mkRat (sgn x.neg (val x.num)) (if x.den=[]then 1 else val x.den)else 0
def rto(q:Rat):GRat:=⟨decide (q.num<0),lb q.num.natAbs,if q.den=1 then[]else lb q.den⟩
structure Fr where
 neg:Bool
 n:Nat
 d:Nat
def Fr.e(f:Fr):GRat:=⟨f.neg,lb f.n,lb f.d⟩
def Fr.v(f:Fr):Rat:=mkRat (sgn f.neg f.n) f.d
def frq(q:Rat):Fr:=⟨decide (q.num<0),q.num.natAbs,q.den⟩
theorem zmi(z:Int):sgn (decide (z<0)) z.natAbs=z:=by unfold sgn;split<;>simp_all<;>omega
theorem zoo(q:Rat):(frq q).v=q:=by simp[Fr.v,frq,zmi,Rat.mkRat_self]
theorem zd6(b:Bool)(n:Nat):(sgn b n).natAbs=n:=by unfold sgn;split<;>simp
theorem zjr{x:GRat}(h:x.valid=true)(hn:x.num≠[])(hd:x.den≠[]):val x.den≠1/\Nat.gcd (val x.num) (val x.den)=1:=by simp[GRat.valid,hn,hd]at h;exact h.2
theorem zl0{l:List UInt32}(h:zbi l):val l=0 ↔ l=[]:=⟨fun h0=>by rw[<- zca h,h0];simp,fun h0=>by rw[h0];rfl⟩
theorem znu{x:GRat}(h:x.valid=true):rto x.v=x:=by
 have hv:x.v=mkRat (sgn x.neg (val x.num)) (if x.den=[]then 1 else val x.den):=by simp[GRat.v,h]
 have hc:zbi x.num/\zbi x.den:=by simp[GRat.valid]at h;exact⟨h.1.1,h.1.2⟩
 obtain⟨neg,num,den⟩:=x;simp only at hv hc;by_cases hn:num=[]
 ·subst hn;simp[GRat.valid]at h;obtain⟨_,rfl,rfl⟩:=h;rw[hv];simp[rto,sgn]
 ·have hn0:val num≠0:=fun h0=>hn ((zl0 hc.1).1 h0);have hsg:(sgn neg (val num))≠0:=by unfold sgn;split<;>omega
  have hdec:decide (sgn neg (val num)<0)=neg:=by unfold sgn;cases neg<;>simp;omega
  by_cases hd:den=[]
  ·subst hd;rw[hv];simp only[yf2];have e:mkRat (sgn neg (val num)) 1=((sgn neg (val num):Int):Rat):=by simp[Rat.mkRat_one]
   rw[e];simp only[rto,Rat.num_intCast,Rat.den_intCast,yf2,zd6,zca hc.1]
   congr 1
  ·have hcop:=zjr h hn hd;simp only at hcop;have hd0:val den≠0:=fun h0=>hd ((zl0 hc.2).1 h0);rw[hv,yf0 hd];have hq:mkRat (sgn neg (val num)) (val den)=⟨sgn neg (val num),val den,hd0,by rw[zd6];exact hcop.2⟩:=by rw[Rat.mk_eq_mkRat]
   rw[hq];simp only[rto,yf0 hcop.1,zd6,zca hc.1,zca hc.2,hdec]
theorem ze8(q:Rat):(frq q).d≠0:=q.den_nz
theorem ze2(q:Rat):(rto q).valid=true:=by
 have h1:(lb q.num.natAbs=[]) ↔ q.num=0:=by simp
 simp only[GRat.valid,rto,decide_true,yhp,zbp];by_cases hz:q.num=0
 ·have:q.den=1:=by have:=q.reduced;rw[hz]at this;simpa[Nat.Coprime]using this
  have hl:=h1.2 hz;simp[hz,this]
 ·have hl:¬ lb q.num.natAbs=[]:=fun h=>hz (h1.1 h);by_cases hd:q.den=1
  ·simp[hd,hz]
  ·have hr:Nat.gcd q.num.natAbs q.den=1:=q.reduced;simp[hd,zbp,hr,hz]
theorem zhi(q:Rat):(rto q).v=q:=by
 rw[GRat.v,yf1 (ze2 q)];have hden:(if (rto q).den=[]then 1 else val (rto q).den)=q.den:=by
  simp only[rto];by_cases hd:q.den=1
  ·simp[hd]
  ·have:q.den≠0:=q.den_nz;simp[hd,this]
 rw[hden];simp only[rto,zmd,zmi,Rat.mkRat_self]
theorem zkc{x:GRat}(h:x.valid=false):x.v=0:=by simp[GRat.v,h]
theorem zec:rto 0=⟨false,[],[]⟩:=by simp[rto]
theorem z5l{b:Bool}{n g:Nat}(h:g ∣ n):sgn b n / (g:Int)=sgn b (n / g):=by
 unfold sgn;cases b
 ·simp
 ·simp only[yf2];rw[Int.neg_ediv_of_dvd (Int.natCast_dvd_natCast.2 h)];simp
theorem z5k{b:Bool}{n:Nat}(h:n≠0):decide (sgn b n<0)=b:=by unfold sgn;cases b<;>simp;omega
theorem zwx{f:Fr}(hd:f.d≠0)(hn:f.n≠0):rto f.v=⟨f.neg,lb (f.n / Nat.gcd f.n f.d),if f.d / Nat.gcd f.n f.d=1 then[]else lb (f.d / Nat.gcd f.n f.d)⟩:=by
 have hg:0<Nat.gcd f.n f.d:=yk7 _ (by omega);have e1:f.v.num=sgn f.neg (f.n / Nat.gcd f.n f.d):=by rw[Fr.v,Rat.num_mkRat,yf0 hd,zd6,Nat.gcd_comm,z5l (Nat.gcd_dvd_left _ _)]
 have e2:f.v.den=f.d / Nat.gcd f.n f.d:=by rw[Fr.v,Rat.den_mkRat,yf0 hd,zd6,Nat.gcd_comm]
 have h3:f.n / Nat.gcd f.n f.d≠0:=by have:=Nat.div_pos (Nat.gcd_le_left f.d (by omega:0<f.n)) hg;omega
 simp only[rto,e1,e2,zd6,z5k h3]
theorem zkd{f:Fr}(hn:f.n=0):f.v=0:=by simp[Fr.v,hn,sgn]
theorem zt6:(frq 0).e=⟨false,[],[1]⟩:=by simp[frq,Fr.e,zlc]
theorem zln{x:GRat}(h:x.valid=true):(frq x.v).e=⟨x.neg,x.num,if x.den=[]then[1]else x.den⟩:=by have e:=znu h;generalize x.v=q at e;subst e;have:q.den≠0:=q.den_nz;by_cases hd:q.den=1<;>simp[frq,Fr.e,rto,hd,zlc,this]
theorem zxp(x:GRat)(hx:x.sm 4194304):Sp P F.db [enc x] (.pure (enc (frq x.v).e)):=by
 refine Sp.vz c.db fun _=>?_;simp[g.db];refine zab (zkn x hx) rfl ?_;simp;rw[zf5];refine⟨fun h=>?_,fun h=>?_⟩
 ·simp;rw[zln h];refine⟨fun h3=>?_,fun h3=>?_⟩
  ·refine zah zkz zcw ?_;simp[h3]
  ·simp[h3]
 ·simp;refine zab zkz zcw ?_;simp[zkc h,zt6]
theorem zry(f:Fr)(hd:f.d≠0)(hx:f.e.sm 4194304):Sp P F.da [enc f.e] (.pure (enc (rto f.v))):=by
 obtain⟨h1,h2⟩:=hx;simp only[Fr.e]at h1 h2;refine Sp.vz c.da fun _=>?_;simp[g.da,Fr.e];refine⟨fun h=>?_,fun h=>?_⟩
 ·simp[zkd h,zec]
 ·have hg:=yk7 f.d (yjl h);refine zah (zjk _ (by omega)) rfl ?_;simp;refine zah (zjk _ (by omega)) rfl ?_;simp;refine zab (z4n _ _ h1 h2 (zbp _) (zbp _)) rfl ?_;simp;refine zab zkz zcw ?_;simp;refine zab (zlw _ [1]) rfl ?_;have hlg:(lb (Nat.gcd f.n f.d)).length<=4194304:=by refine yf7 (zau (n:=Nat.gcd f.n f.d) (k:=(lb f.n).length) ?_) h1;exact yh2 (Nat.gcd_le_left _ (yjl h)) (zhp _)
  rw[zwx hd h];simp[zgu];refine⟨fun h5=>?_,fun h5=>?_⟩
  ·refine zab zkz zcw ?_;simp;refine zab (zlw _ [1]) rfl ?_;simp[zgu,h5];refine⟨fun h6=>?_,fun h6=>?_⟩<;>simp[h6]
  ·refine zab (zrj (lb f.n) (lb (Nat.gcd f.n f.d)) h1 hlg (by simp;omega) (zbp _)) rfl ?_;simp;refine zab (zrj (lb f.d) (lb (Nat.gcd f.n f.d)) h2 hlg (by simp;omega) (zbp _)) rfl ?_;simp;refine zab zkz zcw ?_;simp;refine zab (zlw _ [1]) rfl ?_;simp[zgu];refine⟨fun h6=>?_,fun h6=>?_⟩<;>simp[h6]
def fadd(f g:Fr):Fr :=
 if f.neg=g.neg then⟨f.neg,f.n*g.d+g.n*f.d,f.d*g.d⟩
 else if g.n*f.d<=f.n*g.d then⟨f.neg,f.n*g.d - g.n*f.d,f.d*g.d⟩else⟨g.neg,g.n*f.d - f.n*g.d,f.d*g.d⟩
theorem zwu(b:Bool)(n d:Nat):sgn b n*(d:Int)=sgn b (n*d):=by unfold sgn;cases b<;>simp[Int.neg_mul]
theorem zqh{f g:Fr}(hf:f.d≠0)(hg:g.d≠0):(fadd f g).v=f.v+g.v:=by
 unfold Fr.v;rw[Rat.mkRat_add_mkRat _ _ hf hg,zwu,zwu];unfold fadd;generalize f.n*g.d=A;generalize g.n*f.d=B;cases h1:f.neg<;>cases h2:g.neg<;>simp[sgn]
 ·split<;>simp<;>congr 1<;>omega
 ·split<;>simp<;>congr 1<;>omega
 ·congr 1;omega
theorem zqi{f g:Fr}(hf:f.d≠0)(hg:g.d≠0):(fadd f g).d≠0:=by
 have:(fadd f g).d=f.d*g.d:=by unfold fadd;split<;>(try split)<;>rfl
 rw[this];exact Nat.mul_ne_zero hf hg
theorem zf2{x:GRat}{n:Nat}(h:x.sm n)(hn:1<=n):(frq x.v).e.sm n:=by
 by_cases hv:x.valid=true
 ·rw[zln hv];refine⟨h.1,?_⟩;simp only;split
  ·simpa using hn
  ·exact h.2
 ·rw[zkc (by simpa using hv),zt6];exact⟨by simp,by simpa using hn⟩
theorem zfo{m n a b:Nat}(h1:(lb m).length<=a)(h2:(lb n).length<=b):(lb (m*n)).length<=a+b:=by refine zau ?_;rw[yg9];exact yhc (yfo (zhp m) (yg6 (by omega) h1)) (yfo (zhp n) (yg6 (by omega) h2))
theorem zod{m n:Nat}(h:m<=n):(lb m).length<=(lb n).length:=zau (yh2 h (zhp n))
theorem zir{m n a:Nat}(h1:(lb m).length<=a)(h2:(lb n).length<=a):(lb (m+n)).length<=a+1:=by refine zau ?_;have:=yfo (zhp m) (yg6 (n:=4294967296) (by omega) h1);have:=yfo (zhp n) (yg6 (n:=4294967296) (by omega) h2);rw[yfn];omega
theorem zlr{f g:Fr}{n:Nat}(hf:f.e.sm n)(hg:g.e.sm n):(fadd f g).e.sm (n+n+1):=by
 obtain⟨a,b⟩:=hf;obtain⟨c,d⟩:=hg;simp only[Fr.e]at a b c d;have h1:=zfo a d;have h2:=zfo c b;have h3:=zfo b d;unfold fadd;split
 ·exact⟨zir h1 h2,by simp only[Fr.e];omega⟩
 ·split
  ·exact⟨by have:=zod (Nat.sub_le (f.n*g.d) (g.n*f.d));simp only[Fr.e];omega,by simp only[Fr.e];omega⟩
  ·exact⟨by have:=zod (Nat.sub_le (g.n*f.d) (f.n*g.d));simp only[Fr.e];omega,by simp only[Fr.e];omega⟩
theorem GRat.sm.mono{x:GRat}{m n:Nat}(h:x.sm m)(hmn:m<=n):x.sm n:=⟨yf7 h.1 hmn,yf7 h.2 hmn⟩
theorem zt7(u w:Fr)(hf:u.e.sm 1048576)(hg:w.e.sm 1048576):Sp P F.ej [enc u.e,enc w.e] (.pure (enc (fadd u w).e)):=by
 have h1:=zfo hf.1 hg.2;have h2:=zfo hg.1 hf.2;have h3:=zfo hf.2 hg.2;obtain⟨a1,a2⟩:=hf;obtain⟨b1,b2⟩:=hg;simp only[Fr.e]at a1 a2 b1 b2;refine Sp.vz c.ej fun _=>?_;simp[g.ej,Fr.e];refine zah (zju (lb u.n) (lb w.d) (by omega) (by omega)) rfl ?_;simp;refine zah (zju (lb w.n) (lb u.d) (by omega) (by omega)) rfl ?_;simp;refine zah (zju (lb u.d) (lb w.d) (by omega) (by omega)) rfl ?_;simp;refine⟨fun h=>?_,fun h=>?_⟩
 ·refine zah (z5x (lb (u.n*w.d)) (lb (w.n*u.d)) (by omega) (by omega)) rfl ?_;simp[h,fadd]
 ·refine zab (zlw (lb (u.n*w.d)) (lb (w.n*u.d))) rfl ?_;simp[zfw];refine⟨fun h'=>?_,fun h'=>?_⟩
  ·refine zah (zj2 (lb (u.n*w.d)) (lb (w.n*u.d)) (by omega) (by simpa using h')) rfl ?_;simp[h,h',fadd]
  ·refine zah (zj2 (lb (w.n*u.d)) (lb (u.n*w.d)) (by omega) (by simp;omega)) rfl ?_;have h'':¬ (w.n*u.d<=u.n*w.d):=Nat.not_le.2 h';simp[h,h'',fadd]
theorem zfi(x y:GRat)(hx:x.sm 1048576)(hy:y.sm 1048576):Sp P F.ai [enc x,enc y] (.pure (enc (rto (x.v+y.v)))):=by have h1:=zf2 hx (by omega);have h2:=zf2 hy (by omega);refine Sp.vz c.ai fun _=>?_;simp[g.ai];refine zah (zxp x (hx.mono (by omega))) rfl ?_;simp;refine zah (zxp y (hy.mono (by omega))) rfl ?_;simp;refine zah (zt7 _ _ h1 h2) rfl ?_;simp;refine zah (zry _ (zqi (ze8 _) (ze8 _)) ((zlr h1 h2).mono (by omega))) rfl ?_;simp[zqh,ze8,zoo]
def fneg(u:Fr):Fr:=⟨!u.neg,u.n,u.d⟩
theorem zrn(u:Fr):Sp P F.ld [enc u.e] (.pure (enc (fneg u).e)):=by refine Sp.vz c.ld fun _=>?_;simp[g.ld,fneg,Fr.e]
theorem zy3(u:Fr):(fneg u).v = - u.v:=by unfold Fr.v fneg;rw[Rat.neg_mkRat];congr 1;unfold sgn;cases u.neg<;>simp
theorem z5q(x y:GRat)(hx:x.sm 1048576)(hy:y.sm 1048576):Sp P F.kx [enc x,enc y] (.pure (enc (rto (x.v - y.v)))):=by have h1:=zf2 hx (by omega);have h2:=zf2 hy (by omega);have h3:(fneg (frq y.v)).e.sm 1048576:=h2;refine Sp.vz c.kx fun _=>?_;simp[g.kx];refine zah (zxp x (hx.mono (by omega))) rfl ?_;simp;refine zah (zxp y (hy.mono (by omega))) rfl ?_;simp;refine zah (zrn (frq y.v)) rfl ?_;simp;refine zah (zt7 (frq x.v) (fneg (frq y.v)) h1 h3) rfl ?_;simp;refine zah (zry (fadd (frq x.v) (fneg (frq y.v))) (zqi (ze8 _) (ze8 y.v)) ((zlr h1 h3).mono (by omega))) rfl ?_;have e:=zqh (f:=frq x.v) (g:=fneg (frq y.v)) (ze8 _) (ze8 y.v);simp[e,zoo,zy3,yjm]
end Go.Ab
