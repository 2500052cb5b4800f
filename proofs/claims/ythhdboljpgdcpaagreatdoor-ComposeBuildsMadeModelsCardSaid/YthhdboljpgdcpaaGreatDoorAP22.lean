/- Lemmas for the law ComposeBuildsMadeModels, part 22. No conditions. -/
import Derived.Test.YthhdboljpgdcpaaGreatDoorAP21
set_option maxRecDepth 100000
set_option maxHeartbeats 4000000
set_option linter.all false
namespace Go.Ab
def val:List UInt32->Nat
 | []=>0
 | x::l=>x.toNat+4294967296*val l
def lb(n:Nat):List UInt32:=if h:n=0 then[]else UInt32.ofNat n::lb (n / 4294967296)
termination_by n
decreasing_by omega
def js(x:UInt32):x.toNat<4294967296:=x.toNat_lt
def oG(n:Nat):(UInt32.ofNat n).toNat=n % 4294967296:=by simp[UInt32.toNat_ofNat']
def xC{x y:UInt32}(h:x.toNat=y.toNat):x=y:=UInt32.toNat_inj.1 h
@[simp] theorem z20:val []=0:=rfl
@[simp] theorem sO(x:UInt32)(l:List UInt32):val (x::l)=x.toNat+4294967296*val l:=rfl
@[simp] theorem Zu:lb 0=[]:=by rw[lb];simp
def AF{n:Nat}(h:n≠0):lb n=UInt32.ofNat n::lb (n / 4294967296):=by rw[lb];simp[h]
@[simp] theorem CO(n:Nat):val (lb n)=n:=by
 induction n using Nat.strongRecOn with
 | ind n a =>
  by_cases h:n=0
  .subst h;simp
  .rw[AF h,sO,oG,a _ (by omega)];omega
theorem Qg(l r:List UInt32):val (l++r)=val l+4294967296^l.length*val r:=by
 induction l with
 | nil=>simp
 | cons x l a=>rw[xq,sO,a,sO,pQ,kE];rw[sF,oH _ 4294967296,pS];omega
theorem oO(l:List UInt32):val l<4294967296^l.length:=by
 induction l with
 | nil=>simp
 | cons x l a=>rw[sO,pQ,kE];have:=js x;omega
theorem HL(n:Nat):val (List.replicate n 0)=0:=by
 induction n with
 | zero=>rfl
 | succ n a=>rw[Bh,sO,a];rfl
theorem vk(l:List UInt32)(i:Nat):val (l.take (i+1))=val (l.take i)+4294967296^i*(l.getD i 0).toNat:=by
 induction l generalizing i with
 | nil=>simp
 | cons x l a =>
  cases i with
  | zero=>simp
  | succ i=>simp only[FH,sO,a,List.getD_cons_succ,kE];rw[sF,oH (4294967296^i) 4294967296,pS];omega
def Fo(l:List UInt32){i:Nat}(h:l.length<=i):val (l.take i)=val l:=by rw[fK h]
def zD(l:List UInt32)(x:UInt32):val (l++[x])=val l+4294967296^l.length*x.toNat:=by rw[Qg];simp
theorem GM(l:List UInt32)(i:Nat)(x:UInt32)(h:i<l.length):val (l.set i x)+4294967296^i*(l.getD i 0).toNat=val l+4294967296^i*x.toNat:=by
 induction l generalizing i with
 | nil=>simp at h
 | cons y l a =>
  cases i with
  | zero=>simp;omega
  | succ i =>
   have:=a i (by simpa using h);simp only[List.set_cons_succ,sO,List.getD_cons_succ,Nat.pow_succ];rw[Nat.mul_comm (4294967296^i) 4294967296,Nat.mul_assoc,Nat.mul_assoc];omega
def N9(l:List UInt32)(i:Nat):val l=val (l.take i)+4294967296^(min i l.length)*val (l.drop i):=by
 conv=>lhs;rw[<- List.take_append_drop i l]
 rw[Qg,iB]
def GL(l:List UInt32)(i:Nat):val l / 4294967296^i=val (l.drop i):=by
 obtain h|h:=pR l.length i
 .rw[DO (by omega)];refine yG (iC (oO l) (pP (by omega) (by omega)))
 .have:=N9 l i;rw[wc h]at this;rw[this,Ik _ _ (qU (by omega))];have a:=oO (l.take i);rw[iB,wc h]at a;rw[yG a];omega
def BH(l:List UInt32)(i:Nat):(l.getD i 0).toNat=val l / 4294967296^i % 4294967296:=by
 rw[GL];obtain h|h:=pR i l.length
 .rw[vw h,sO];simp[h]
 .rw[DO h];simp[DT h]
def gE(l:List UInt32):Prop:=l.getLast?≠some 0
theorem vY:∀ {l:List UInt32},gE l->lb (val l)=l
 | [],_=>by simp
 | x::l,h=>by
  have j:gE l:=by
   cases l with
   | nil=>simp[gE]
   | cons y r=>simpa[gE]using h
  have a:=vY j;have b:val (x::l)≠0:=by
   intro d;simp only[sO]at d;have m:x=0:=xC (by simp;omega);have k:val l=0:=by omega
   rw[k]at a;simp at a;subst m;subst a;simp[gE]at h
  rw[AF b];have f:UInt32.ofNat (val (x::l))=x:=xC (by rw[oG,sO];have:=js x;omega);have i:val (x::l) / 4294967296=val l:=by rw[sO];have:=js x;omega
  rw[f,i,a]
theorem tT(n:Nat):gE (lb n):=by
 induction n using Nat.strongRecOn with
 | ind n d =>
  by_cases h:n=0
  .subst h;simp[gE]
  .rw[AF h];have:=d (n / 4294967296) (by omega);by_cases a:n / 4294967296=0
   .rw[a];simp only[Zu,gE,List.getLast?_singleton,ne_eq,cF];intro b;have:=congrArg UInt32.toNat b;rw[oG]at this;simp at this;omega
   .rw[AF a]at this ⊢;simpa[gE]using this
@[simp] theorem ygh(n:Nat):lb n=[] ↔ n=0:=⟨λh=>by have:=congrArg val h;simpa using this,λh=>by subst h;simp⟩
theorem oF{n k:Nat}(h:n<4294967296^k):(lb n).length<=k:=by
 induction k generalizing n with
 | zero=>simp at h;subst h;simp
 | succ k b =>
  by_cases a:n=0
  .subst a;simp
  .rw[AF a,pQ];have:=@b (n / 4294967296) (by rw[kE]at h;omega);omega
def By:lb 1=[1]:=by rw[AF (by omega)];simp
def Ll{n:Nat}(h:n≠0):0<(lb n).length:=by rw[AF h];simp
theorem KP{n:Nat}(h:n≠0):4294967296^((lb n).length - 1)<=n:=by
 induction n using Nat.strongRecOn with
 | ind n b =>
  rw[AF h,pQ,FJ];by_cases a:n / 4294967296=0
  .rw[a];simp;omega
  .have:=b _ (by omega) a;have d:=Ll a;have e:(lb (n / 4294967296)).length=(lb (n / 4294967296)).length - 1+1:=by omega
   rw[e,kE];omega
def kN(m n:Nat):Int:=if m<n then -1 else if m=n then 0 else 1
def HB(l:List UInt32)(i:Nat):val l / 4294967296^i=4294967296*(val l / 4294967296^(i+1))+(l.getD i 0).toNat:=by rw[BH,kE,<- Nat.div_div_eq_div_mul];omega
theorem HD(l:List UInt32){i:Nat}(h:l.length<=i):val l / 4294967296^i=0:=by rw[GL,DO h];rfl
def Hd{m n k:Nat}(h:m / k<n / k):m<n:=by apply Nat.lt_of_not_le;intro a;have:=Nat.div_le_div_right (c:=k) a;omega
def UP{l:List UInt32}{i:Nat}{x:UInt32}(h:i<l.length):(l.set i x).take (i+1)=l.take i++[x]:=by rw[List.take_succ_eq_append_getElem (by simpa using h)];simp[List.take_set_of_le]
def UL{l:List UInt32}{i:Nat}{x:UInt32}(h:i<l.length):val ((l.set i x).take (i+1))=val (l.take i)+4294967296^i*x.toNat:=by rw[UP h,zD,iB,wc (by omega)]
def Q3{l:List UInt32}{n:Nat}(h:val l<4294967296^n):val (l.take n)=val l:=by
 obtain hn|hn:=pR n l.length
 .have a:=N9 l n;rw[wc (by omega)]at a;have:val (l.drop n)=0:=by apply Mf;intro b;have:=Iq (4294967296^n) b;omega
  rw[this]at a;omega
 .rw[Fo _ hn]
def Qd{v v' p q B sum o x y d r A T:Nat}(h:v'+p*q*o=v+p*q*r)(f:v+p*q*sum=A+p*x*T)(a:B*d+r=sum+(o+x*y)) :
  v'+p*(q*B)*d=A+p*x*(T+q*y):=by
 have b:p*q*(B*d+r)=p*q*(sum+(o+x*y)):=by rw[a]
 simp only[sF,oH,Nat.mul_left_comm]at *
 omega
def Fm(k:Nat):2^k=4294967296^(k / 32)*2^(k % 32):=by have:(4294967296:Nat)=2^32:=rfl;rw[this,<- Nat.pow_mul,<- Nat.pow_add];congr 1;omega
def E2{s:Nat}(h:s<32):2^s<=2147483648:=pP (n:=2) (by omega) (show s<=31 by omega)
def Ug(x y r s:Nat)(hs:s<32):(x+4294967296*(y+4294967296*r)) / 2^s % 4294967296=(y*4294967296+x) / 2^s % 4294967296:=by
 have h:2^s*2^(32 - s)=4294967296:=by rw[<- Nat.pow_add,show s+(32 - s)=32 by omega]
 have e:x+4294967296*(y+4294967296*r)=(y*4294967296+x)+2^s*(4294967296*(2^(32 - s)*r)):=by rw[<- Nat.mul_assoc (2^s),oH (2^s) 4294967296,pS,<- Nat.mul_assoc (2^s),h,sF];omega
 rw[e,Ik _ _ (qU (by omega)),Me]
def Q2(l:List UInt32)(i:Nat):val (l.drop i)=(l.getD i 0).toNat+4294967296*val (l.drop (i+1)):=by
 obtain h|h:=pR i l.length
 .rw[vw h,sO];simp[h]
 .rw[DO h,DO (by omega)];simp[DT h]
def uA(n:Nat):n<4294967296^(lb n).length:=by have:=oO (lb n);simpa using this
def ya1{U V i L:Nat}(b:4294967296^(L - 1)<=V)(m:0<L)(f:U<V*4294967296^(i+1)) :
  U / (V*4294967296^i)<=min (U / 4294967296^(i+L - 1) / (V / 4294967296^(L - 1))) 4294967295:=by
 have a:∀ k,0<4294967296^k:=λk=>qU (by omega);have n:0<V:=iC (a _) b;refine Nat.le_min.2 ⟨?_,?_⟩
 .have o:0<V / 4294967296^(L - 1):=Nat.div_pos b (a _);rw[Ij o,Ij (a _)];have r:U / (V*4294967296^i)*(V*4294967296^i)<=U:=Nat.div_mul_le_self _ _;have h:V / 4294967296^(L - 1)*4294967296^(L - 1)<=V:=Nat.div_mul_le_self _ _;have e:i+L - 1=(L - 1)+i:=by omega
  rw[e,rM];generalize U / (V*4294967296^i)=d at *
  have j:d*(V / 4294967296^(L - 1)*4294967296^(L - 1))<=d*V:=yF _ h;have s:=kD (4294967296^i) j;simp only[pS]at *
  omega
 .have:U / (V*4294967296^i)<4294967296:=by rw[B8 (Be n (a _))];rw[kE]at f;rw[oH 4294967296,pS];exact f
  omega
def XS{U n:Nat}(h:U<4294967296^(n+2)):((lb U).getD (n+1) 0).toNat*4294967296+((lb U).getD n 0).toNat=U / 4294967296^n:=by
 have a:=BH (lb U) (n+1);have b:=BH (lb U) n;have e:U / 4294967296^(n+1)=U / 4294967296^n / 4294967296:=by rw[kE,Mp]
 have d:U / 4294967296^n<4294967296*4294967296:=by
  rw[B8 (qU (by omega))];have:4294967296^(n+2)=4294967296*4294967296*4294967296^n:=by rw[rM,oH]
  omega
 rw[CO]at a b;rw[a,b,e];generalize U / 4294967296^n=x at *
 omega
def z21{V:Nat}(b:V≠0):((lb V).getD ((lb V).length - 1) 0).toNat=V / 4294967296^((lb V).length - 1)/\0<V / 4294967296^((lb V).length - 1):=by
 have a:=BH (lb V) ((lb V).length - 1);rw[CO]at a;have d:=uA V;have f:=Ll b;constructor
 .rw[a,uI];rw[B8 (qU (by omega)),oH,<- Nat.pow_succ,Nat.succ_eq_add_one,show(lb V).length - 1+1=(lb V).length by omega];exact d
 .exact Nat.div_pos (KP b) (qU (by omega))
def Th(i:Nat):2^(32*i)=4294967296^i:=by rw[SQ]
def ybw{m n:Nat}:kN m n<0 ↔ m<n:=by unfold kN;split<;>(try split)<;>omega
def HA{m n:Nat}:0<=kN m n ↔ n<=m:=by unfold kN;split<;>(try split)<;>omega
def E0{m n:Nat}:kN m n=0 ↔ m=n:=by unfold kN;split<;>(try split)<;>omega
def vO(a:List UInt32)(i:Int)(h:0<=i):zS 308 [.sl (aH a),.int .i64 i] (.int .u64 (a.getD i.toNat 0).toNat):=by
 refine Sp.vz c.bs λ_=>?_;simp[g.bs];refine⟨λb=>bK (by omega) ⟨h,?_⟩,λb=>?_⟩
 .have:i.toNat<a.length:=by omega
  simp[*]
 .have:a.length<=i.toNat:=by omega
  simp[this]
def xI(a:List UInt32):zS 314 [.sl (aH a)] (.sl (aH (lb (val a)))):=by
 refine Sp.vz c.az λs=>?_;have o:=EI s.1;simp[g.az];refine cQ (S:=λl:List UInt32=>aD [(0,.p (.sl (aH l)))] []) (I:=λl=>val l=val a/\l.length<=9223372036854775807) (m:=λl=>l.length) a (aA.of (keep:=[0]) (ids:=[]) rfl) ⟨rfl,o⟩ ?_;rintro l ⟨i,u⟩ R r w t;have e:IntKind.i64.wrap (↑l.length - 1) = ↑l.length - 1:=b5;have j:((l.length:Int) - 1).toNat=l.length - 1:=by omega
 simp[g.u9,aD,e,j];have d:gE l->R (Exit.exit 0) ⟨[(0,.p (.sl (aH l)))],[(aL,[none])]⟩:=λn=>by refine t _ _ ?_;simp;rw[<- i,vY n]
 refine⟨λh=>bK (by omega) ⟨by omega,λf=>⟨by omega,r (l.take (l.length - 1)) _ (aA.of (keep:=[0]) (ids:=[]) rfl) ?_ ?_⟩,λf=>d ?_⟩,λh=>d ?_⟩
 .refine⟨?_,by simp;omega⟩;have k:l=l.take (l.length - 1)++[0]:=by
   conv=>lhs;rw[<- List.take_append_getLast l (by intro b;simp[b]at h)]
   rw[List.getLast_eq_getElem,xC (x:=l[l.length - 1]) (y:=0) (by simpa using f)]
  rw[k,zD]at i;simpa using i
 .simp;omega
 .intro b;rw[List.getLast?_eq_getElem?,dF (by omega)]at b;simp at b;rw[b]at f;exact f rfl
 .subst h;simp[gE]
def Bx(a b:List UInt32):zS 264 [.sl (aH a),.sl (aH b)] (.int .i64 (kN (val a) (val b))):=by
 refine Sp.vz c.dv λn=>?_;have F:=EI n.1;have w:=EI n.2.1;simp[g.dv];have e:IntKind.i64.wrap ((if a.length<b.length then(b.length:Int)else a.length) - 1)=((max a.length b.length:Nat):Int) - 1:=by rw[cG (by split<;>omega) (by split<;>omega)];split<;>omega
 simp only[e];refine cQ (S:=λk:Nat=>aD [(0,.p (.sl (aH a))),(1,.p (.sl (aH b))),(5,.p (.int .i64 ((k:Int) - 1)))] []) (I:=λk=>k<=max a.length b.length/\val a / 4294967296^k=val b / 4294967296^k) (m:=λk=>k) (max a.length b.length) (aA.of (keep:=[0,1,5]) (ids:=[]) rfl) ⟨dK _,by rw[HD _ (by omega),HD _ (by omega)]⟩ ?_;rintro k ⟨E,j⟩ R z B C;simp[g.ux,aD];refine⟨λu=>?_,λu=>?_⟩
 .refine c8 (vO _ _ (by omega)) rfl ?_;simp;refine c8 (vO _ _ (by omega)) rfl ?_;simp;have D:((k:Int) - 1).toNat=k - 1:=by omega
  have s:IntKind.i64.wrap ((k:Int) - 1 - 1)=((k - 1:Nat):Int) - 1:=by rw[cG (by omega) (by omega)];omega
  have d:=HB a (k - 1);have f:=HB b (k - 1);rw[show k - 1+1=k by omega]at d f;have o:=js (a.getD (k - 1) 0);have r:=js (b.getD (k - 1) 0);simp only[eT]at d f o r;simp only[s];generalize (a[k - 1]?.getD 0).toNat=x at d o ⊢;generalize (b[k - 1]?.getD 0).toNat=y at f r ⊢;refine⟨λt=>z (k - 1) _ (aA.of (keep:=[0,1,5]) (ids:=[]) rfl) ⟨by omega,by omega⟩ (by omega),λA=>B _ ?_⟩;simp;have i:val a / 4294967296^(k - 1)<val b / 4294967296^(k - 1)\/val b / 4294967296^(k - 1)<val a / 4294967296^(k - 1):=by omega
  simp only[wrap_i64];obtain h|h:=i
  .have:=Hd h;rw[kN,aW this];omega
  .have:=Hd h;rw[kN,aY (by omega),aY (by omega)];omega
 .refine C _ _ ?_;simp;have:k=0:=by omega
  subst this;simp at j;simp[kN,j]
def Z4(a b:List UInt32)(N:a.length<=1073741824)(J:b.length<=1073741824):zS 311 [.sl (aH a),.sl (aH b)] (.sl (aH (lb (val a+val b)))):=by
 refine Sp.vz c.od λ_=>?_;simp[g.od]
 refine cQ (S:=λx:Nat × Nat × List UInt32=>aD [(0,.p (.sl (aH a))),(1,.p (.sl (aH b))),(5,.own 1 0 0 x.2.2.length),(6,.p (.int .u64 x.2.1)),(7,.p (.int .i64 x.1))] [(1,⟨1,aT x.2.2⟩)])
  (I:=λx=>x.2.2.length=x.1/\(x.1<=max a.length b.length+1/\(x.1=max a.length b.length+1->x.2.1=0))/\x.2.1<=1/\val x.2.2+4294967296^x.1*x.2.1=val (a.take x.1)+val (b.take x.1)) (m:=λx=>max a.length b.length+1 - x.1) (0,0,[]) (aA.nl 5 1 1 rfl (aA.of (keep:=[0,1,5,6,7]) (ids:=[((1,0),1)]) rfl)) ⟨rfl,⟨by simp,by simp⟩,by simp,by simp⟩ ?_
 rintro⟨i,sum,f⟩ ⟨s,G,H,d⟩ R K Q L;simp at s G H d;simp[g.u6];refine⟨λh=>?_,λh=>⟨λt=>?_,λt=>?_⟩⟩;rotate_left 2
 .refine L _ _ ?_;simp;refine c8 (xI f) (by simp) ?_;simp;rw[t]at d;rw[fK (by omega),fK (by omega)]at d;simp at d;rw[d]
 all_goals
  refine c8 (vO _ _ (by omega)) rfl ?_;simp;refine c8 (vO _ _ (by omega)) rfl ?_;simp;have C:=bH i;have j:=vk a i;have k:=vk b i;have A:=js (a.getD i 0);have B:=js (b.getD i 0);simp only[eT]at j k A B;generalize (a[i]?.getD 0).toNat=x at j A ⊢;generalize (b[i]?.getD 0).toNat=y at k B ⊢;have M:max a.length b.length<=i->x=0/\y=0:=λO=>by
   rw[fK (by omega),fK (by omega)]at j k;have u:0<4294967296^i:=qU (by omega);constructor
   .apply Mf;intro o;have:=Be u o;omega
   .apply Mf;intro o;have:=Be u o;omega
  have D:((sum:Int)+(↑x + ↑y)) % 18446744073709551616 / 4294967296=(((sum+x+y) / 4294967296:Nat):Int):=by omega
  obtain⟨z,w⟩:∃ z:UInt32,z.toNat=(sum+x+y) % 4294967296:=⟨_,oG _⟩;have E:((sum:Int)+(↑x + ↑y)) % 4294967296=(z.toNat:Int):=by rw[w];omega
  rw[C,D,E];refine⟨by split at h<;>omega,K (i+1,(sum+x+y) / 4294967296,f++[z]) _ (aA.to [0,1,5,6,7] [((34,0),1)] (by simp)) ⟨by simp[s],?_,?_,?_⟩ ?_⟩
  all_goals simp
  .split at h<;>omega
  .omega
  .rw[zD,w,s,j,k,kE];have n:sum+x+y=4294967296*((sum+x+y) / 4294967296)+(sum+x+y) % 4294967296:=by omega
   generalize 4294967296^i=p at d ⊢;generalize (sum+x+y) / 4294967296=q at n ⊢;generalize (sum+x+y) % 4294967296=r at n ⊢;have F:p*(sum+x+y)=p*4294967296*q+p*r:=by rw[n,sF,pS]
   rw[sF,sF]at F;omega
  .split at h<;>omega
def G5(a b:List UInt32)(O:a.length<=1073741824)(t:val b<=val a):zS 312 [.sl (aH a),.sl (aH b)] (.sl (aH (lb (val a - val b)))):=by
 refine Sp.vz c.gp λ_=>?_;simp[g.gp]
 refine⟨by omega,cQ (S:=λx:Nat × Nat × List UInt32=>aD [(0,.p (.sl (aH a))),(1,.p (.sl (aH b))),(5,.own 1 0 0 a.length),(6,.p (.int .u64 x.2.1)),(13,.p (.int .i64 a.length)),(14,.p (.int .i64 x.1))] [(1,⟨1,aT x.2.2⟩)])
  (I:=λx=>x.2.2.length=a.length/\x.1<=a.length/\x.2.1<=1/\val (x.2.2.take x.1)+val (b.take x.1)=val (a.take x.1)+4294967296^x.1*x.2.1) (m:=λx=>a.length - x.1) (0,0,List.replicate a.length 0)
  (aA.to [0,1,5,6,13,14] [((11,0),1)] (by simp)) ⟨by simp,by simp,by simp,by simp⟩ ?_⟩
 rintro⟨i,d,f⟩ ⟨n,G,H,A⟩ R L Q M;simp at n G H A;simp[g.u7];refine⟨λh=>?_,λh=>?_⟩
 .refine c8 (vO _ _ (by omega)) rfl ?_;simp;refine c8 (vO _ _ (by omega)) rfl ?_;simp;have D:=bH i;have u:=vk a i;have w:=vk b i;have s:=js (a.getD i 0);have C:=js (b.getD i 0);simp only[eT]at u w s C;generalize (a[i]?.getD 0).toNat=x at u s ⊢;generalize (b[i]?.getD 0).toNat=y at w C ⊢;obtain⟨z,B⟩:∃ z:UInt32,z.toNat=(x+4294967296 - y - d) % 4294967296:=⟨_,oG _⟩;obtain⟨o,j⟩:∃ o:Nat,o=if x<y+d then 1 else 0:=⟨_,rfl⟩
  have E:((x:Int) - ↑y - ↑d) % 18446744073709551616 / 9223372036854775808=(o:Int):=by subst j;split<;>omega
  have F:((x:Int) - ↑y - ↑d) % 4294967296=(z.toNat:Int):=by rw[B];omega
  refine⟨by omega,bK (by omega) ?_⟩;rw[D,E,F];refine L (i+1,o,f.set i z) _ (aA.to [0,1,5,6,13,14] [((1,0),1)] (by simp)) ⟨by simp[n],by simp;omega,by simp;subst j;split<;>omega,?_⟩ ?_
  .simp;rw[UL (by omega),B,u,w,kE];have N:x+4294967296*o=y+d+(x+4294967296 - y - d) % 4294967296:=by subst j;split<;>omega
   generalize 4294967296^i=p at *
   generalize (x+4294967296 - y - d) % 4294967296=r at *
   grind
  .simp;omega
 .refine M _ _ ?_;have K:i=a.length:=by omega
  subst K;rw[<- n,lO,n,lO,Q3 (oR t (oO a))]at A;have s:=oO f;rw[n]at s;have k:d=0:=by
   obtain J|J:=pR 0 d
   .have:d=1:=by omega
    subst this;omega
   .omega
  subst k;simp;refine c8 (xI f) (by simp[<- n]) ?_;simp;rw[show val f=val a - val b by omega]
def Da(a b:List UInt32)(hl:a.length<=536870912)(X:b.length<=536870912):zS 271 [.sl (aH a),.sl (aH b)] (.sl (aH (lb (val a*val b)))):=by
 refine Sp.vz c.gn λ_=>?_;have O:IntKind.i64.wrap ((a.length:Int)+b.length)=((a.length+b.length:Nat):Int):=b5;simp[g.gn,O];have r:((a.length:Int)+b.length).toNat=a.length+b.length:=by omega
 simp only[r]
 refine⟨by omega,cQ (S:=λx:Nat × List UInt32=>aD [(0,.p (.sl (aH a))),(1,.p (.sl (aH b))),(5,.own 1 0 0 (a.length+b.length)),(16,.p (.int .i64 a.length)),(17,.p (.int .i64 x.1))] [(1,⟨1,aT x.2⟩)])
  (I:=λx=>x.2.length=a.length+b.length/\x.1<=a.length/\val x.2=val (a.take x.1)*val b) (m:=λx=>a.length - x.1) (0,List.replicate (a.length+b.length) 0)
  (aA.to [0,1,5,16,17] [((14,0),1)] (by simp)) ⟨by simp,by simp,by simp[HL]⟩ ?_⟩
 rintro⟨i,n⟩ ⟨w,W,A⟩ R Y hr hx;simp at w W A;simp[g.u3];refine⟨λh=>?_,λh=>?_⟩
 .refine cQ (S:=λx:Nat × Nat × List UInt32=>aD [(0,.p (.sl (aH a))),(1,.p (.sl (aH b))),(5,.own 1 0 0 (a.length+b.length)),(6,.p (.int .i64 i)),(7,.p (.int .u64 x.2.1)),(8,.p (.int .i64 x.1)),(16,.p (.int .i64 a.length)),(17,.p (.int .i64 i))] [(1,⟨1,aT x.2.2⟩)])
   (I:=λx=>x.2.2.length=a.length+b.length/\x.1<=b.length+1/\x.2.1<4294967296/\val x.2.2+4294967296^i*4294967296^x.1*x.2.1=val (a.take i)*val b+4294967296^i*(a.getD i 0).toNat*val (b.take x.1)) (m:=λx=>b.length+1 - x.1) (0,0,n)
   (aA.to [0,1,5,6,7,8,16,17] [((1,0),1)] (by simp)) ⟨by simp[w],by simp,by simp,by simp[A]⟩ ?_
  rintro⟨j,sum,d⟩ ⟨F,k2,k3,f⟩ R2 C Z E;simp at F k2 k3 f;simp[g.uz];have k:0<sum->j<b.length+1:=λhs=>by
   apply Nat.lt_of_not_le;intro B;have B:j=b.length+1:=by omega
   subst B;rw[Fo b (by omega)]at f;have K:val (a.take i)*val b+4294967296^i*(a.getD i 0).toNat*val b=val (a.take (i+1))*val b:=by rw[vk];grind
   simp only[eT]at K;rw[K]at f;have q2:val (a.take (i+1))<4294967296^(i+1):=iC (oO _) (pP (by omega) (by simp;omega));have q3:=uG q2 (oO b);have q4:4294967296^(i+1)*4294967296^b.length=4294967296^i*4294967296^(b.length+1):=by rw[<- Nat.pow_add,<- Nat.pow_add];congr 1;omega
   have q5:=Iq (4294967296^i*4294967296^(b.length+1)) hs;omega
  refine⟨λg=>?_,λg=>⟨λu=>?_,λu=>?_⟩⟩;rotate_left 2
  .refine E _ _ ?_;simp;have s:=bH i;rw[s];refine Y (i+1,d) _ (aA.to [0,1,5,16,17] [((1,0),1)] (by simp)) ⟨by simp[F],by simp;omega,?_⟩ (by simp;omega);simp;rw[u,Fo b (by omega)]at f;rw[vk];simp only[eT]
   grind
  all_goals
   have B:j<=b.length:=by first|omega|(have:=k u;omega)
   have H:IntKind.i64.wrap ((i:Int)+j)=((i+j:Nat):Int):=b5;have t:((i:Int)+j).toNat=i+j:=by omega
   simp[H,t];refine⟨by omega,bK (by omega) ?_⟩;refine fE (vO _ _ (by omega)) rfl ?_;simp;refine fE (vO _ _ (by omega)) rfl ?_;simp;have s:=bH j;have G:=vk b j;have L:=js (a.getD i 0);have M:=js (b.getD j 0);have u2:=js d[i+j];have N:∀ z,val (d.set (i+j) z)+4294967296^(i+j)*d[i+j].toNat=val d+4294967296^(i+j)*z.toNat:=λz=>by have:=GM d (i+j) z (by omega);simpa[List.getElem?_eq_getElem (show i+j<d.length by omega)]using this
   simp only[eT]at G L M f;rw[H,s,kQ];refine⟨by omega,bK (by omega) ?_⟩;generalize D:(a[i]?.getD 0).toNat=x at L f ⊢;generalize (b[j]?.getD 0).toNat=y at G M ⊢;generalize d[i+j].toNat=o at u2 N ⊢;have ad:x*y<=4294967295*4294967295:=mS (by omega) (by omega);obtain⟨z,J⟩:∃ z:UInt32,z.toNat=(sum+(o+x*y)) % 4294967296:=⟨_,oG _⟩;have Q:((sum:Int)+(o+x*y)) % 18446744073709551616 / 4294967296=(((sum+(o+x*y)) / 4294967296:Nat):Int):=by
    have:((x:Int)*y)=((x*y:Nat):Int):=by simp
    rw[this];omega
   have U:((sum:Int)+(o+x*y)) % 4294967296=(z.toNat:Int):=by
    have:((x:Int)*y)=((x*y:Nat):Int):=by simp
    rw[this,J];omega
   rw[Q,U];refine C (j+1,(sum+(o+x*y)) / 4294967296,d.set (i+j) z) _ (aA.to [0,1,5,6,7,8,16,17] [((1,0),1)] (by simp)) ⟨by simp[F],by simp;omega,by simp;omega,?_⟩ (by simp;omega);simp;have v:=N z;rw[J,rM]at v;rw[G,kE,D];have V:=FD (sum+(o+x*y)) 4294967296;exact Qd v f V
 .refine hx _ _ ?_;simp;refine c8 (xI n) (by simp[<- w]) ?_;simp;have:i=a.length:=by omega
  subst this;rw[A,lO]
def VA(a:List UInt32)(d:UInt32)(N:a.length<=1073741824)(hd:d≠0):zS 316 [.sl (aH a),.int .u32 d.toNat] (.bP [.sl (aH (lb (val a / d.toNat))),.int .u32 (val a % d.toNat:Nat)]):=by
 refine Sp.vz c.og λ_=>?_;have C:IntKind.i64.wrap ((a.length:Int) - 1)=(a.length:Int) - 1:=b5;simp[g.og,C];have b:0<d.toNat:=by
  obtain h|h:=Cb d.toNat
  .exact absurd (xC (by simpa using h)) hd
  .exact h
 have G:=js d
 refine⟨by omega,cQ (S:=λx:Nat × Nat × List UInt32=>aD [(0,.p (.sl (aH a))),(1,.p (.int .u32 d.toNat)),(6,.own 1 0 0 a.length),(7,.p (.int .u64 x.2.1)),(8,.p (.int .i64 ((x.1:Int) - 1)))] [(1,⟨1,aT x.2.2⟩)])
  (I:=λx=>x.2.2.length=a.length/\x.1<=a.length/\x.2.1<d.toNat/\val (a.drop x.1)=val (x.2.2.drop x.1)*d.toNat+x.2.1) (m:=λx=>x.1) (a.length,0,List.replicate a.length 0)
  (aA.to [0,1,6,7,8] [((11,0),1)] (by simp)) ⟨by simp,by simp,by simpa using b,by simp⟩ ?_⟩
 rintro⟨k,r,q⟩ ⟨n,F,i,j⟩ R J O L;simp at n F i j;simp[g.vc];refine⟨λh=>?_,λh=>?_⟩
 .have M:((k:Int) - 1).toNat=k - 1:=by omega
  have D:IntKind.i64.wrap ((k:Int) - 1 - 1)=((k - 1:Nat):Int) - 1:=by rw[cG (by omega) (by omega)];omega
  simp only[D];refine bK (by omega) ⟨by omega,?_⟩;have o:=js a[k - 1];have t:a.drop (k - 1)=a[k - 1]::a.drop k:=by rw[vw (by omega)];congr 1;rw[show k - 1+1=k by omega]
  generalize a[k - 1]=x at o t ⊢;have A:=LZ (r:=r) (x:=x.toNat) (k:=32) (by omega) (by omega) (by omega);simp only[show(2:Int)^32=4294967296 from rfl,show(2:Nat)^32=4294967296 from rfl]at A;rw[A,HP,S9];refine⟨by omega,by omega,bK (by omega) ⟨by omega,?_⟩⟩;obtain⟨z,s⟩:∃ z:UInt32,z.toNat=(r*4294967296+x.toNat) / d.toNat % 4294967296:=⟨_,oG _⟩;have K:(r*4294967296+x.toNat) / d.toNat<4294967296:=by rw[B8 b];have:(r+1)*4294967296<=d.toNat*4294967296:=kD _ i;rw[oH 4294967296];omega
  rw[uI K]at s;have E:(((r*4294967296+x.toNat) / d.toNat:Nat):Int) % 4294967296=(z.toNat:Int):=by rw[s];omega
  rw[E];refine J (k - 1,(r*4294967296+x.toNat) % d.toNat,q.set (k - 1) z) _ (aA.to [0,1,6,7,8] [((1,0),1)] (by simp)) ⟨by simp[n],by simp;omega,by simp;exact yH _ b,?_⟩ (by simp;omega);simp;have B:(q.set (k - 1) z).drop (k - 1)=z::q.drop k:=by rw[vw (by simp;omega)];simp;rw[show k - 1+1=k by omega,Md (by omega)]
  rw[t,B,sO,sO,j,s];have y:=FD (r*4294967296+x.toNat) d.toNat;generalize (r*4294967296+x.toNat) / d.toNat=u at y ⊢;generalize (r*4294967296+x.toNat) % d.toNat=w at y ⊢
  grind
 .refine L _ _ ?_;have H:k=0:=by omega
  subst H;simp at j;simp;refine c8 (xI q) (by simp[<- n]) ?_;have f:(val a / d.toNat=val q/\val a % d.toNat=r):=by
   rw[j];constructor
   .rw[oH,Nat.mul_add_div b,yG i];omega
   .rw[oH,Nat.mul_add_mod,uI i]
  simp;rw[f.1];have:=f.2;refine⟨rfl,?_⟩;rw[<- this];omega
def Wu{v p r A a x s w u d q:Nat}(j:v+p*r=A*a)(b:4294967296*u+w=x*s+r)(f:p=d*q)(h:a=d*s):v+p*w+p*4294967296*u=(A+q*x)*a:=by
 have i:p*(4294967296*u+w)=p*(x*s+r):=by rw[b]
 subst f h;simp only[sF,pS,oH,Nat.mul_left_comm]at *
 omega
def Gt(a:List UInt32)(k:Nat)(X:a.length+k<=1073741824):zS 355 [.sl (aH a),.int .i64 k] (.sl (aH (lb (val a*2^k)))):=by
 refine Sp.vz c.gr λ_=>?_;have B:IntKind.i64.wrap ((k:Int) / 32)=((k / 32:Nat):Int):=by rw[cG (by omega) (by omega)];omega
 have C:IntKind.i64.wrap (((k / 32:Nat):Int)+a.length)=((k / 32+a.length:Nat):Int):=by rw[cG (by omega) (by omega)];omega
 have D:IntKind.i64.wrap (((k / 32+a.length:Nat):Int)+1)=((k / 32+a.length+1:Nat):Int):=by rw[cG (by omega) (by omega)];omega
 simp[g.gr];rw[B,C,D]
 refine⟨⟨by omega,by omega,by omega,by omega⟩,cQ (S:=λx:Nat × Nat × List UInt32=>aD [(1,.p (.int .i64 k)),(5,.own 1 0 0 (k / 32+x.1)),(6,.p (.int .u64 x.2.1)),(18,.p (.sl (aH a))),(19,.p (.int .i64 a.length)),(20,.p (.int .i64 x.1))] [(1,⟨1,aT x.2.2⟩)])
  (I:=λx=>x.2.2.length=k / 32+x.1/\x.1<=a.length/\x.2.1<2^(k % 32)/\val x.2.2+4294967296^(k / 32+x.1)*x.2.1=val (a.take x.1)*2^k) (m:=λx=>a.length - x.1) (0,0,List.replicate (k / 32) 0)
  (aA.to [1,5,6,18,19,20] [((17,0),1)] (by simp;omega)) ⟨by simp,by simp,by simp;exact qU (by omega),by simp[HL]⟩ ?_⟩
 rintro⟨i,r,f⟩ ⟨b,L,A,j⟩ R O Y V;simp at b L A j;simp[g.vd];have K:((k:Int)).tmod 32=((k % 32:Nat):Int):=HP k 32;have E:((k % 32:Nat):Int).toNat.min 64=k % 32:=wc (by rw[kQ];omega);have U:=E2 (s:=k % 32) (yH _ (by omega));have N:=Fm k;rw[K,E];refine⟨λh=>bK h ⟨by omega,⟨by omega,by omega⟩,?_⟩,λh=>?_⟩
 .have t:=js a[i];have y:=vk a i;simp[h]at y;generalize a[i]=x at t y ⊢;have W:x.toNat*2^(k % 32)<=4294967295*2147483648:=mS (by omega) U;have Q:=ZO (r:=x.toNat) (x:=r) (k:=k % 32) (by omega) A (by omega);rw[Q];have F:=bH i;obtain⟨z,d⟩:∃ z:UInt32,z.toNat=(x.toNat*2^(k % 32)+r) % 4294967296:=⟨_,oG _⟩;have G:((x.toNat*2^(k % 32)+r:Nat):Int) / 4294967296=(((x.toNat*2^(k % 32)+r) / 4294967296:Nat):Int):=by omega
  have n:((x.toNat*2^(k % 32)+r:Nat):Int) % 4294967296=(z.toNat:Int):=by rw[d];omega
  have o:(x.toNat*2^(k % 32)+r) / 4294967296<2^(k % 32):=by rw[B8 (by omega)];have:(x.toNat+1)*2^(k % 32)<=4294967296*2^(k % 32):=kD _ (by omega);rw[wi]at this;omega
  rw[F,G,n];refine O (i+1,(x.toNat*2^(k % 32)+r) / 4294967296,f++[z]) _ (aA.to [1,5,6,18,19,20] [((35,0),1)] (by simp;omega)) ⟨by simp[b];omega,by simp;omega,by simpa using o,?_⟩ (by simp;omega);simp;have H:=Nat.div_add_mod (x.toNat*2^(k % 32)+r) 4294967296;rw[zD,b,d,y,show k / 32+(i+1)=k / 32+i+1 by omega,Nat.pow_succ];have J:4294967296^(k / 32+i)=4294967296^(k / 32)*4294967296^i:=Nat.pow_add _ _ _;generalize (x.toNat*2^(k % 32)+r) / 4294967296=u at *
  generalize (x.toNat*2^(k % 32)+r) % 4294967296=w at *
  exact Wu j H J N
 .refine V _ _ ?_;have M:i=a.length:=by omega
  subst M;simp;obtain⟨z,d⟩:∃ z:UInt32,z.toNat=r % 4294967296:=⟨_,oG _⟩;have n:(r:Int) % 4294967296=(z.toNat:Int):=by rw[d];omega
  rw[n];refine⟨⟨by omega,by omega⟩,c8 (xI (f++[z])) (lH (uF rfl (by simp) (by simp[b])) pL) ?_⟩;simp;rw[zD,d,b];rw[lO]at j;rw[uI (by omega),j]
def Vi(a:List UInt32)(k:Nat)(X:a.length<=1073741824)(W:k<4294967296):zS 356 [.sl (aH a),.int .i64 k] (.sl (aH (lb (val a / 2^k)))):=by
 refine Sp.vz c.ol λ_=>?_;obtain⟨q,Q⟩:∃ q,k / 32=q:=⟨_,rfl⟩;obtain⟨s,B⟩:∃ s,k % 32=s:=⟨_,rfl⟩;have F:IntKind.i64.wrap ((k:Int) / 32)=(q:Int):=by rw[cG (by omega) (by omega)];omega
 simp[g.ol];rw[F];obtain⟨A,t⟩:∃ A,A=val (a.drop q) / 2^s:=⟨_,rfl⟩
 refine cQ (S:=λx:Nat × List UInt32=>aD [(0,.p (.sl (aH a))),(1,.p (.int .i64 k)),(5,.own 1 0 0 x.1),(6,.p (.int .i64 ((q:Int)+x.1)))] [(1,⟨1,aT x.2⟩)])
  (I:=λx=>x.2.length=x.1/\(q+x.1<=a.length\/x.1=0)/\val x.2=A % 4294967296^x.1) (m:=λx=>a.length - (q+x.1)) (0,[]) (aA.nl 5 1 1 rfl (aA.to [0,1,5,6] [((1,0),1)] (by simp))) ⟨rfl,by simp,by simp[Nat.mod_one]⟩ ?_
 rintro⟨j,b⟩ ⟨d,N,o⟩ R O Y V;simp at d N o;simp[g.ve];have L:((k:Int)).tmod 32=(s:Int):=by rw[<- B];exact HP k 32
 have G:s.min 64=s:=wc (by omega);have U:=E2 (s:=s) (by omega);refine⟨λh=>?_,λh=>?_⟩
 .have M:IntKind.i64.wrap ((q:Int)+j+1)=(q:Int)+j+1:=by rw[cG (by omega) (by omega)]
  have K:((q:Int)+j+1).toNat=q+j+1:=by omega
  have n:((q:Int)+j).toNat=q+j:=by omega
  rw[M];refine c8 (vO _ _ (by omega)) rfl ?_;simp;refine c8 (vO _ _ (by omega)) rfl ?_;simp;rw[L,K,n,cG (by omega) (by omega)];have f:=Q2 a (q+j);have i:=Q2 a (q+j+1);have D:=js (a.getD (q+j) 0);have E:=js (a.getD (q+j+1) 0);simp only[eT]at f i D E;generalize (a[q+j]?.getD 0).toNat=x at f D ⊢;generalize (a[q+j+1]?.getD 0).toNat=y at i E ⊢;have w:=LZ (r:=y) (x:=x) (k:=32) (by omega) (by omega) (by omega);simp only[show(2:Int)^32=4294967296 from rfl,show(2:Nat)^32=4294967296 from rfl]at w;rw[w,kQ,G];obtain⟨z,C⟩:∃ z:UInt32,z.toNat=(y*4294967296+x) / 2^s % 4294967296:=⟨_,oG _⟩;have H:((y*4294967296+x:Nat):Int) / 2^s % 4294967296=(z.toNat:Int):=by rw[C];simp
  rw[H];refine⟨by omega,by omega,O (j+1,b++[z]) _ (aA.to [0,1,5,6] [((30,0),1)] (by simp;omega)) ⟨by simp[d],by simp;omega,?_⟩ (by simp;omega)⟩;simp;have J:A / 4294967296^j=val (a.drop (q+j)) / 2^s:=by rw[t,Mp,oH,<- Nat.div_div_eq_div_mul,GL,wj]
  rw[zD,d,o,C,Nat.mod_pow_succ,J,f,i,Ug _ _ _ _ (by omega)]
 .refine V _ _ ?_;simp;refine c8 (xI b) (lH (uF rfl rfl d.symm) pL) ?_;simp;have:val a / 2^k=A:=by rw[Fm k,Q,B,<- Nat.div_div_eq_div_mul,GL,t]
  rw[this,o,uI];have u:=oO (a.drop q);rw[lp]at u;refine oR (t ▸ Bd _ _) (iC u (pP (by omega) (by omega)))
open Enc (enc)
def jL{α : Type}(p : α -> Bool)(l:List α):Int:=match l.findIdx? p with|some i=>i|none =>-1
section
variable {α : Type} {p : α -> Bool} {l:List α}
def Hm(h:∀ x∈l,p x=false):jL p l = -1:=by unfold jL;rw[Ii.2 h]
def GF{k:Nat}(b:k<l.length)(h:∀ x∈l.take k,p x=false)(a:p l[k]=true):jL p l=k:=by
 unfold jL;have:l.findIdx? p=some k:=by rw[Ih];refine⟨b,a,λj d=>?_⟩;have:=h l[j] (by rw[List.mem_take_iff_getElem];exact⟨j,by omega,rfl⟩);simp[this]
 rw[this]
theorem Qi:(decide (0<=jL p l))=l.any p:=by
 unfold jL;cases h:l.findIdx? p with
 | none =>
  have:=Ii.1 h;simp;exact λx b=>this x b
 | some i =>
  obtain⟨d,a,_⟩:=Ih.1 h;simp;exact⟨l[i],bV _,a⟩
end
def zN(st:St)(l:List PV):(l.map AV.p).mapM (bE st aZ)=some l:=Rs 5 st l
theorem Sp.rZ{P:Program}{f:FuncId}{r:RV}(i:Sp P f [.nl] r)(j:Sp P f [.sle] r):Sp P f [.sl []] r:=by
 refine⟨i.1,λw M vals d k=>?_⟩;cases k with
 | cons _ x _ xs m h =>
  cases h;cases m with
  | ry a cap =>
   cases a with
   | none=>exact i.2 w M _ d (.cons _ _ _ _ (.nl cap) .nil)
   | some a=>exact j.2 w M _ d (.cons _ _ _ _ (.sle a cap) .nil)
  | sl _ b o cap=>exact j.2 w M _ d (.cons _ _ _ _ (.sle _ cap) .nil)
end Go.Ab
namespace Go.Ab
open Enc (enc)
attribute [local simp] fX bL.aR
def mJ(n:Nat):Nat:=if n=0 then 0 else Nat.log2 n+1
def len8:List UInt8:=[0,1,2,2,3,3,3,3,4,4,4,4,4,4,4,4,5,5,5,5,5,5,5,5,5,5,5,5,5,5,5,5,6,6,6,6,6,6,6,6,6,6,6,6,6,6,6,6,6,6,6,6,6,6,6,6,6,6,6,6,6,6,6,6,7,7,7,7,7,7,7,7,7,7,7,7,7,7,7,7,7,7,7,7,7,7,7,7,7,7,7,7,7,7,7,7,7,7,7,7,7,7,7,7,7,7,7,7,7,7,7,7,7,7,7,7,7,7,7,7,7,7,7,7,7,7,7,7]++List.replicate 128 8
def yaq:∀ n,n<256->len8[n]?=some (UInt8.ofNat (mJ n)):=by decide +kernel
def C5{n m:Nat}:mJ n<=m ↔ n<2^m:=by
 unfold mJ;split
 .rename_i h;subst h;simp[Nat.two_pow_pos]
 .rename_i h;rw[<- Nat.log2_lt h];omega
def Hb{n k:Nat}(h:2^k<=n):mJ n=k+mJ (n / 2^k):=by
 have a:∀ m,mJ n<=m ↔ k+mJ (n / 2^k)<=m:=by
  intro m;rw[C5];by_cases d:k<=m
  .have:k+mJ (n / 2^k)<=m ↔ mJ (n / 2^k)<=m - k:=by omega
   rw[this,C5,B8 (Nat.two_pow_pos k),<- Nat.pow_add,Nat.sub_add_cancel d]
  .have:2^m<=2^k:=pP (by omega) (by omega);constructor
   .intro b;omega
   .intro b;omega
 have f:=(a (mJ n)).1 (dK _);have b:=(a (k+mJ (n / 2^k))).2 (dK _);omega
def Z9(n:Nat)(h:n<256):∃ b:UInt8,len8[n]?=some b/\b.toNat=mJ n:=by refine⟨_,yaq n h,?_⟩;have:mJ n<=8:=C5.2 (by omega);simp[UInt8.toNat_ofNat'];omega
def NS:(Nj [0,1,2,2,3,3,3,3,4,4,4,4,4,4,4,4,5,5,5,5,5,5,5,5,5,5,5,5,5,5,5,5,6,6,6,6,6,6,6,6,6,6,6,6,6,6,6,6,6,6,6,6,6,6,6,6,6,6,6,6,6,6,6,6,7,7,7,7,7,7,7,7,7,7,7,7,7,7,7,7,7,7,7,7,7,7,7,7,7,7,7,7,7,7,7,7,7,7,7,7,7,7,7,7,7,7,7,7,7,7,7,7,7,7,7,7,7,7,7,7,7,7,7,7,7,7,7,7,8,8,8,8,8,8,8,8,8,8,8,8,8,8,8,8,8,8,8,8,8,8,8,8,8,8,8,8,8,8,8,8,8,8,8,8,8,8,8,8,8,8,8,8,8,8,8,8,8,8,8,8,8,8,8,8,8,8,8,8,8,8,8,8,8,8,8,8,8,8,8,8,8,8,8,8,8,8,8,8,8,8,8,8,8,8,8,8,8,8,8,8,8,8,8,8,8,8,8,8,8,8,8,8,8,8,8,8,8,8,8,8,8,8,8,8,8,8,8,8,8,8,8,8,8,8,8,8]).data.toList=len8:=by decide +kernel
def Wv(x:UInt32):zS 399 [.int .u32 x.toNat] (.int .i64 (mJ x.toNat)):=by
 have H:=x.toNat_lt;generalize x.toNat=n at *
 have a:∀ (m k:Nat),m<256->mJ n=k+mJ m->∀ (z:Int),z=m->∃ e,len8[z.toNat]?=some e/\(0<=z)/\IntKind.i64.wrap (e.toNat:Int)=e.toNat/\∀ t:Int,t=k->IntKind.i64.wrap (t+e.toNat)=(mJ n:Nat):=by intro m k D G z F;subst F;obtain⟨b,s,o⟩:=Z9 m D;have:mJ m<=8:=C5.2 (by omega);have E:mJ n<=32:=C5.2 (by omega);exact⟨b,by simpa using s,by omega,cG (by omega) (by omega),λt C=>by rw[cG (by omega) (by omega)];omega⟩
 refine Sp.vz c.gt λ_=>?_;simp[g.gt,NS];refine⟨λs=>⟨λo=>?_,λo=>?_⟩,λs=>⟨λo=>?_,λo=>?_⟩⟩
 .have j:mJ n=24+mJ (n / 65536 / 256):=by have w:=Hb (n:=n) (k:=16) (by omega);have y:=Hb (n:=n / 2^16) (k:=8) (by omega);simp only[Nat.reducePow]at w y;omega
  obtain⟨e,d,f,h,i⟩:=a (n / 65536 / 256) 24 (by omega) j ((n:Int) / 65536 / 256 % 256) (by omega);rw[lM];refine⟨e,d,?_⟩;have r:IntKind.i64.wrap 24=24:=b5;simp[f,r,h,i 24 rfl]
 .have j:mJ n=16+mJ (n / 65536):=Hb (n:=n) (k:=16) (by omega);obtain⟨e,d,f,h,i⟩:=a (n / 65536) 16 (by omega) j ((n:Int) / 65536 % 256) (by omega);rw[lM];refine⟨e,d,?_⟩;simp[f,h,i 16 rfl]
 .have j:mJ n=8+mJ (n / 256):=Hb (n:=n) (k:=8) (by omega);obtain⟨e,d,f,h,i⟩:=a (n / 256) 8 (by omega) j ((n:Int) / 256 % 256) (by omega);rw[lM];refine⟨e,d,?_⟩;have A:IntKind.i64.wrap 8=8:=b5;simp[f,A,h,i 8 rfl]
 .obtain⟨e,d,f,h,i⟩:=a n 0 (by omega) (by omega) ((n:Int) % 256) (by omega);have u:=i 0 rfl;rw[Int.zero_add,h]at u;have E:mJ n<=32:=C5.2 (by omega);have B:IntKind.i64.wrap ((mJ n:Nat):Int)=(mJ n:Nat):=b5;rw[lM];refine⟨e,d,?_⟩;simp[f,u,B]
def yaz(l:List Int)(f:FuncId)(a:List PV)(p:Int->Bool)(s:l.length<=4611686018427387904)(j:∀ x∈l,Sp P f (enc x::a) (.pure (.bool (p x)))) :
  zS 180 [.sl (aH l),.fn f a] (.int .i64 (jL p l)):=by
 refine Sp.vz c.ng λ_=>?_;simp[g.ng]
 refine cQ (S:=λk:Nat=>aD [(0,.p (.sl (aH l))),(1,.p (.fn f a)),(7,.p (.int .i64 l.length)),(8,.p (.int .i64 k))] []) (I:=λk=>k<=l.length/\∀ x∈l.take k,p x=false) (m:=λk=>l.length - k) 0
  (aA.to [0,1,7,8] [] (by simp)) ⟨by omega,by simp⟩ ?_
 rintro k ⟨r,h⟩ R n o b;have i:=bH k;simp[g.ul,aD];refine⟨λd=>?_,λd=>b _ _ ?_⟩
 .refine bK d ?_
  try simp
  refine bF (j l[k] (bV d)) (lH rfl (zN _ _)) ?_;obtain h3|h3:=ju (p l[k])
  .simp[h3];refine o _ ?_;simp[GF d h h3]
  .simp[h3,i];refine n (k+1) _ (aA.to [0,1,7,8] [] (by simp)) ⟨by omega,λx b=>?_⟩ (by omega);rw[ed d]at b;obtain b|b:=dT.1 b
   .exact h x b
   .simp at b;rw[b];exact h3
 .have:k=l.length:=by omega
  subst this;simp[Hm (p:=p) (l:=l) (by simpa using h)]
def Zo(l:List Int)(f:FuncId)(a:List PV)(p:Int->Bool)(d:l.length<=4611686018427387904)(b:∀ x∈l,Sp P f (enc x::a) (.pure (.bool (p x)))) :
  zS 140 [.sl (aH l),.fn f a] (.bool (l.any p)):=by
 refine Sp.vz c.mj λ_=>?_;simp[g.mj];refine bF (yaz l f a p d b) rfl ?_;simp[Qi]
theorem UH(l:List UInt32)(a:l.length<=2147483648):zS 313 [.sl (aH l)] (.sl (aH l)):=by
 cases l with
 | nil =>
  refine Sp.rZ ?_ ?_
  .refine Sp.vz c.bv λ_=>?_;simp[g.bv]
  .refine Sp.vz c.bv λ_=>?_;simp[g.bv,eS]
 | cons x l =>
  refine Sp.vz c.bv λ_=>?_;simp at a;simp[g.bv,eS,a]
theorem Xo(l:List Int)(a:l.length<=2147483648):zS 62 [.sl (aH l)] (.sl (aH l)):=by
 cases l with
 | nil =>
  refine Sp.rZ ?_ ?_
  .refine Sp.vz c.b8 λ_=>?_;simp[g.b8]
  .refine Sp.vz c.b8 λ_=>?_;simp[g.b8,eS]
 | cons x l =>
  refine Sp.vz c.b8 λ_=>?_;simp at a;simp[g.b8,eS,a]
end Go.Ab
namespace Go.Ab
def uT(n:Nat):Nat:=if n=0 then 0 else Nat.log2 n+1
def z75{x:Nat}(h:x<4294967296):uT x<=32:=by
 unfold uT;split
 .omega
 .have:=(Nat.log2_lt (n:=x) (k:=32) (by assumption)).2 h;omega
def yb3{x:Nat}(h:x≠0):1<=uT x:=by unfold uT;rw[aY h];omega
def yar(x:UInt32):zS 399 [.int .u32 x.toNat] (.int .i64 (uT x.toNat)):=Wv x
def QG(l:List UInt32)(a:l.length<=2147483648):zS 313 [.sl (aH l)] (.sl (aH l)):=UH l a
end Go.Ab
