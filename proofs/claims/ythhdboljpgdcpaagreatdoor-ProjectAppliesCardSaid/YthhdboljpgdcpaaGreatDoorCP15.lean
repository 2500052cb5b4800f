/- Lemmas for the law ProjectApplies, part 15. No conditions. -/
import Derived.Test.YthhdboljpgdcpaaGreatDoorCP14
set_option maxRecDepth 100000
set_option maxHeartbeats 4000000
set_option linter.all false
namespace Go.Ab
def val:List UInt32->Nat
 | []=>0
 | x::l=>x.toNat+4294967296*val l
def lb(n:Nat):List UInt32:=if h:n=0 then[]else UInt32.ofNat n::lb (n / 4294967296)
termination_by n
decreasing_by omega
def jD(x:UInt32):x.toNat<4294967296:=x.toNat_lt
def oH(n:Nat):(UInt32.ofNat n).toNat=n % 4294967296:=by simp[UInt32.toNat_ofNat']
def ye{x y:UInt32}(h:x.toNat=y.toNat):x=y:=UInt32.toNat_inj.1 h
@[simp] theorem S1:val []=0:=rfl
@[simp] theorem sQ(x:UInt32)(l:List UInt32):val (x::l)=x.toNat+4294967296*val l:=rfl
@[simp] theorem yge:lb 0=[]:=by rw[lb];simp
def BG{n:Nat}(h:n≠0):lb n=UInt32.ofNat n::lb (n / 4294967296):=by rw[lb];simp[h]
@[simp] theorem DU(n:Nat):val (lb n)=n:=by
 induction n using Nat.strongRecOn with
 | ind n d =>
  by_cases h:n=0
  .subst h;simp
  .rw[BG h,sQ,oH,d _ (by omega)];omega
theorem QT(l r:List UInt32):val (l++r)=val l+4294967296^l.length*val r:=by
 induction l with
 | nil=>simp
 | cons x l d=>rw[xX,sQ,d,sQ,qH,kJ];rw[sE,oI _ 4294967296,pX];omega
theorem oW(l:List UInt32):val l<4294967296^l.length:=by
 induction l with
 | nil=>simp
 | cons x l d=>rw[sQ,qH,kJ];have:=jD x;omega
theorem Jb(n:Nat):val (List.replicate n 0)=0:=by
 induction n with
 | zero=>rfl
 | succ n d=>rw[Cj,sQ,d];rfl
theorem vC(l:List UInt32)(i:Nat):val (l.take (i+1))=val (l.take i)+4294967296^i*(l.getD i 0).toNat:=by
 induction l generalizing i with
 | nil=>simp
 | cons x l d =>
  cases i with
  | zero=>simp
  | succ i=>simp only[GV,sQ,d,List.getD_cons_succ,kJ];rw[sE,oI (4294967296^i) 4294967296,pX];omega
def Gr(l:List UInt32){i:Nat}(h:l.length<=i):val (l.take i)=val l:=by rw[eZ h]
def AZ(l:List UInt32)(x:UInt32):val (l++[x])=val l+4294967296^l.length*x.toNat:=by rw[QT];simp
theorem HY(l:List UInt32)(i:Nat)(x:UInt32)(h:i<l.length):val (l.set i x)+4294967296^i*(l.getD i 0).toNat=val l+4294967296^i*x.toNat:=by
 induction l generalizing i with
 | nil=>simp at h
 | cons y l d =>
  cases i with
  | zero=>simp;omega
  | succ i =>
   have:=d i (by simpa using h);simp only[List.set_cons_succ,sQ,List.getD_cons_succ,Nat.pow_succ];rw[Nat.mul_comm (4294967296^i) 4294967296,Nat.mul_assoc,Nat.mul_assoc];omega
def Pj(l:List UInt32)(i:Nat):val l=val (l.take i)+4294967296^(min i l.length)*val (l.drop i):=by
 conv=>lhs;rw[<- List.take_append_drop i l]
 rw[QT,fY]
def HX(l:List UInt32)(i:Nat):val l / 4294967296^i=val (l.drop i):=by
 obtain h|h:=pW l.length i
 .rw[EW (by omega)];refine Ac (iL (oW l) (pV (by omega) (by omega)))
 .have:=Pj l i;rw[uN h]at this;rw[this,JA _ _ (qZ (by omega))];have d:=oW (l.take i);rw[fY,uN h]at d;rw[Ac d];omega
def CQ(l:List UInt32)(i:Nat):(l.getD i 0).toNat=val l / 4294967296^i % 4294967296:=by
 rw[HX];obtain h|h:=pW i l.length
 .rw[vJ h,sQ];simp[h]
 .rw[EW h];simp[E0 h]
def gK(l:List UInt32):Prop:=l.getLast?≠some 0
theorem wD:∀ {l:List UInt32},gK l->lb (val l)=l
 | [],_=>by simp
 | x::l,h=>by
  have m:gK l:=by
   cases l with
   | nil=>simp[gK]
   | cons y r=>simpa[gK]using h
  have d:=wD m;have f:val (x::l)≠0:=by
   intro i;simp only[sQ]at i;have o:x=0:=ye (by simp;omega);have n:val l=0:=by omega
   rw[n]at d;simp at d;subst o;subst d;simp[gK]at h
  rw[BG f];have j:UInt32.ofNat (val (x::l))=x:=ye (by rw[oH,sQ];have:=jD x;omega);have k:val (x::l) / 4294967296=val l:=by rw[sQ];have:=jD x;omega
  rw[j,k,d]
theorem tT(n:Nat):gK (lb n):=by
 induction n using Nat.strongRecOn with
 | ind n i =>
  by_cases h:n=0
  .subst h;simp[gK]
  .rw[BG h];have:=i (n / 4294967296) (by omega);by_cases d:n / 4294967296=0
   .rw[d];simp only[yge,gK,List.getLast?_singleton,ne_eq,cD];intro f;have:=congrArg UInt32.toNat f;rw[oH]at this;simp at this;omega
   .rw[BG d]at this ⊢;simpa[gK]using this
@[simp] theorem yhl(n:Nat):lb n=[] ↔ n=0:=⟨λh=>by have:=congrArg val h;simpa using this,λh=>by subst h;simp⟩
theorem nR{n k:Nat}(h:n<4294967296^k):(lb n).length<=k:=by
 induction k generalizing n with
 | zero=>simp at h;subst h;simp
 | succ k f =>
  by_cases d:n=0
  .subst d;simp
  .rw[BG d,qH];have:=@f (n / 4294967296) (by rw[kJ]at h;omega);omega
def CC:lb 1=[1]:=by rw[BG (by omega)];simp
def MB{n:Nat}(h:n≠0):0<(lb n).length:=by rw[BG h];simp
theorem Mh{n:Nat}(h:n≠0):4294967296^((lb n).length - 1)<=n:=by
 induction n using Nat.strongRecOn with
 | ind n f =>
  rw[BG h,qH,GZ];by_cases d:n / 4294967296=0
  .rw[d];simp;omega
  .have:=f _ (by omega) d;have i:=MB d;have e:(lb (n / 4294967296)).length=(lb (n / 4294967296)).length - 1+1:=by omega
   rw[e,kJ];omega
def kS(m n:Nat):Int:=if m<n then -1 else if m=n then 0 else 1
def IZ(l:List UInt32)(i:Nat):val l / 4294967296^i=4294967296*(val l / 4294967296^(i+1))+(l.getD i 0).toNat:=by rw[CQ,kJ,<- Nat.div_div_eq_div_mul];omega
theorem I1(l:List UInt32){i:Nat}(h:l.length<=i):val l / 4294967296^i=0:=by rw[HX,EW h];rfl
def Ix{m n k:Nat}(h:m / k<n / k):m<n:=by apply Nat.lt_of_not_le;intro d;have:=Nat.div_le_div_right (c:=k) d;omega
def VT{l:List UInt32}{i:Nat}{x:UInt32}(h:i<l.length):(l.set i x).take (i+1)=l.take i++[x]:=by rw[List.take_succ_eq_append_getElem (by simpa using h)];simp[List.take_set_of_le]
def VF{l:List UInt32}{i:Nat}{x:UInt32}(h:i<l.length):val ((l.set i x).take (i+1))=val (l.take i)+4294967296^i*x.toNat:=by rw[VT h,AZ,fY,uN (by omega)]
def RR{l:List UInt32}{n:Nat}(h:val l<4294967296^n):val (l.take n)=val l:=by
 obtain hn|hn:=pW n l.length
 .have d:=Pj l n;rw[uN (by omega)]at d;have:val (l.drop n)=0:=by apply Nw;intro f;have:=JG (4294967296^n) f;omega
  rw[this]at d;omega
 .rw[Gr _ hn]
def QR{v v' p q B sum o x y d r A T:Nat}(j:v'+p*q*o=v+p*q*r)(i:v+p*q*sum=A+p*x*T)(f:B*d+r=sum+(o+x*y)) :
  v'+p*(q*B)*d=A+p*x*(T+q*y):=by
 have h:p*q*(B*d+r)=p*q*(sum+(o+x*y)):=by rw[f]
 simp only[sE,oI,Nat.mul_left_comm]at *
 omega
def Gv(k:Nat):2^k=4294967296^(k / 32)*2^(k % 32):=by have:(4294967296:Nat)=2^32:=rfl;rw[this,<- Nat.pow_mul,<- Nat.pow_add];congr 1;omega
def Gb{s:Nat}(h:s<32):2^s<=2147483648:=pV (n:=2) (by omega) (show s<=31 by omega)
def Vd(x y r s:Nat)(hs:s<32):(x+4294967296*(y+4294967296*r)) / 2^s % 4294967296=(y*4294967296+x) / 2^s % 4294967296:=by
 have h:2^s*2^(32 - s)=4294967296:=by rw[<- Nat.pow_add,show s+(32 - s)=32 by omega]
 have e:x+4294967296*(y+4294967296*r)=(y*4294967296+x)+2^s*(4294967296*(2^(32 - s)*r)):=by rw[<- Nat.mul_assoc (2^s),oI (2^s) 4294967296,pX,<- Nat.mul_assoc (2^s),h,sE];omega
 rw[e,JA _ _ (qZ (by omega)),Nv]
def RQ(l:List UInt32)(i:Nat):val (l.drop i)=(l.getD i 0).toNat+4294967296*val (l.drop (i+1)):=by
 obtain h|h:=pW i l.length
 .rw[vJ h,sQ];simp[h]
 .rw[EW h,EW (by omega)];simp[E0 h]
def uB(n:Nat):n<4294967296^(lb n).length:=by have:=oW (lb n);simpa using this
def ybo{U V i L:Nat}(h:4294967296^(L - 1)<=V)(o:0<L)(j:U<V*4294967296^(i+1)) :
  U / (V*4294967296^i)<=min (U / 4294967296^(i+L - 1) / (V / 4294967296^(L - 1))) 4294967295:=by
 have f:∀ k,0<4294967296^k:=λk=>qZ (by omega);have r:0<V:=iL (f _) h;refine Nat.le_min.2 ⟨?_,?_⟩
 .have s:0<V / 4294967296^(L - 1):=Nat.div_pos h (f _);rw[Jz s,Jz (f _)];have t:U / (V*4294967296^i)*(V*4294967296^i)<=U:=Nat.div_mul_le_self _ _;have m:V / 4294967296^(L - 1)*4294967296^(L - 1)<=V:=Nat.div_mul_le_self _ _;have e:i+L - 1=(L - 1)+i:=by omega
  rw[e,rN];generalize U / (V*4294967296^i)=d at *
  have n:d*(V / 4294967296^(L - 1)*4294967296^(L - 1))<=d*V:=Aa _ m;have u:=jU (4294967296^i) n;simp only[pX]at *
  omega
 .have:U / (V*4294967296^i)<4294967296:=by rw[Da (Cd r (f _))];rw[kJ]at j;rw[oI 4294967296,pX];exact j
  omega
def YM{U n:Nat}(h:U<4294967296^(n+2)):((lb U).getD (n+1) 0).toNat*4294967296+((lb U).getD n 0).toNat=U / 4294967296^n:=by
 have d:=CQ (lb U) (n+1);have f:=CQ (lb U) n;have e:U / 4294967296^(n+1)=U / 4294967296^n / 4294967296:=by rw[kJ,NH]
 have i:U / 4294967296^n<4294967296*4294967296:=by
  rw[Da (qZ (by omega))];have:4294967296^(n+2)=4294967296*4294967296*4294967296^n:=by rw[rN,oI]
  omega
 rw[DU]at d f;rw[d,f,e];generalize U / 4294967296^n=x at *
 omega
def X9{V:Nat}(f:V≠0):((lb V).getD ((lb V).length - 1) 0).toNat=V / 4294967296^((lb V).length - 1)/\0<V / 4294967296^((lb V).length - 1):=by
 have d:=CQ (lb V) ((lb V).length - 1);rw[DU]at d;have h:=uB V;have i:=MB f;constructor
 .rw[d,uM];rw[Da (qZ (by omega)),oI,<- Nat.pow_succ,Nat.succ_eq_add_one,show(lb V).length - 1+1=(lb V).length by omega];exact h
 .exact Nat.div_pos (Mh f) (qZ (by omega))
def Ui(i:Nat):2^(32*i)=4294967296^i:=by rw[TQ]
def ycj{m n:Nat}:kS m n<0 ↔ m<n:=by unfold kS;split<;>(try split)<;>omega
def IY{m n:Nat}:0<=kS m n ↔ n<=m:=by unfold kS;split<;>(try split)<;>omega
def F'{m n:Nat}:kS m n=0 ↔ m=n:=by unfold kS;split<;>(try split)<;>omega
def vV(a:List UInt32)(i:Int)(h:0<=i):zS 308 [.sl (ens a),.int .i64 i] (.int .u64 (a.getD i.toNat 0).toNat):=by
 refine Sp.vz c.b8 λ_=>?_;simp[g.b8];refine⟨λd=>bK (by omega) ⟨h,?_⟩,λd=>?_⟩
 .have:i.toNat<a.length:=by omega
  simp[*]
 .have:a.length<=i.toNat:=by omega
  simp[this]
def yl(a:List UInt32):zS 314 [.sl (ens a)] (.sl (ens (lb (val a)))):=by
 refine Sp.vz c.az λt=>?_;have r:=FG t.1;simp[g.az];refine b6 (S:=λl:List UInt32=>aB [(0,.p (.sl (ens l)))] []) (I:=λl=>val l=val a/\l.length<=9223372036854775807) (m:=λl=>l.length) a (aA.of (keep:=[0]) (ids:=[]) rfl) ⟨rfl,r⟩ ?_;rintro l ⟨j,z⟩ R s C u;have e:IntKind.i64.wrap (↑l.length - 1) = ↑l.length - 1:=cT;have k:((l.length:Int) - 1).toNat=l.length - 1:=by omega
 simp[g.xp,aB,e,k];have f:gK l->R (Exit.exit 0) ⟨[(0,.p (.sl (ens l)))],[(aO,[none])]⟩:=λo=>by refine u _ _ ?_;simp;rw[<- j,wD o]
 refine⟨λh=>bK (by omega) ⟨by omega,λi=>⟨by omega,s (l.take (l.length - 1)) _ (aA.of (keep:=[0]) (ids:=[]) rfl) ?_ ?_⟩,λi=>f ?_⟩,λh=>f ?_⟩
 .refine⟨?_,by simp;omega⟩;have n:l=l.take (l.length - 1)++[0]:=by
   conv=>lhs;rw[<- List.take_append_getLast l (by intro d;simp[d]at h)]
   rw[List.getLast_eq_getElem,ye (x:=l[l.length - 1]) (y:=0) (by simpa using i)]
  rw[n,AZ]at j;simpa using j
 .simp;omega
 .intro d;rw[List.getLast?_eq_getElem?,dO (by omega)]at d;simp at d;rw[d]at i;exact i rfl
 .subst h;simp[gK]
def Cx(a b:List UInt32):zS 264 [.sl (ens a),.sl (ens b)] (.int .i64 (kS (val a) (val b))):=by
 refine Sp.vz c.fb λn=>?_;have J:=FG n.1;have z:=FG n.2.1;simp[g.fb];have e:IntKind.i64.wrap ((if a.length<b.length then(b.length:Int)else a.length) - 1)=((max a.length b.length:Nat):Int) - 1:=by rw[cL (by split<;>omega) (by split<;>omega)];split<;>omega
 simp only[e];refine b6 (S:=λk:Nat=>aB [(0,.p (.sl (ens a))),(1,.p (.sl (ens b))),(5,.p (.int .i64 ((k:Int) - 1)))] []) (I:=λk=>k<=max a.length b.length/\val a / 4294967296^k=val b / 4294967296^k) (m:=λk=>k) (max a.length b.length) (aA.of (keep:=[0,1,5]) (ids:=[]) rfl) ⟨dE _,by rw[I1 _ (by omega),I1 _ (by omega)]⟩ ?_;rintro k ⟨H,j⟩ R C E F;simp[g.xe,aB];refine⟨λu=>?_,λu=>?_⟩
 .refine dC (vV _ _ (by omega)) rfl ?_;simp;refine dC (vV _ _ (by omega)) rfl ?_;simp;have G:((k:Int) - 1).toNat=k - 1:=by omega
  have s:IntKind.i64.wrap ((k:Int) - 1 - 1)=((k - 1:Nat):Int) - 1:=by rw[cL (by omega) (by omega)];omega
  have d:=IZ a (k - 1);have f:=IZ b (k - 1);rw[show k - 1+1=k by omega]at d f;have o:=jD (a.getD (k - 1) 0);have r:=jD (b.getD (k - 1) 0);simp only[eV]at d f o r;simp only[s];generalize (a[k - 1]?.getD 0).toNat=x at d o ⊢;generalize (b[k - 1]?.getD 0).toNat=y at f r ⊢;refine⟨λt=>C (k - 1) _ (aA.of (keep:=[0,1,5]) (ids:=[]) rfl) ⟨by omega,by omega⟩ (by omega),λD=>E _ ?_⟩;simp;have i:val a / 4294967296^(k - 1)<val b / 4294967296^(k - 1)\/val b / 4294967296^(k - 1)<val a / 4294967296^(k - 1):=by omega
  simp only[wrap_i64];obtain h|h:=i
  .have:=Ix h;rw[kS,aX this];omega
  .have:=Ix h;rw[kS,bD (by omega),bD (by omega)];omega
 .refine F _ _ ?_;simp;have:k=0:=by omega
  subst this;simp at j;simp[kS,j]
def yfa(a b:List UInt32)(W:a.length<=1073741824)(O:b.length<=1073741824):zS 311 [.sl (ens a),.sl (ens b)] (.sl (ens (lb (val a+val b)))):=by
 refine Sp.vz c.p8 λ_=>?_;simp[g.p8]
 refine b6 (S:=λx:Nat × Nat × List UInt32=>aB [(0,.p (.sl (ens a))),(1,.p (.sl (ens b))),(5,.own 1 0 0 x.2.2.length),(6,.p (.int .u64 x.2.1)),(7,.p (.int .i64 x.1))] [(1,⟨1,aK x.2.2⟩)])
  (I:=λx=>x.2.2.length=x.1/\(x.1<=max a.length b.length+1/\(x.1=max a.length b.length+1->x.2.1=0))/\x.2.1<=1/\val x.2.2+4294967296^x.1*x.2.1=val (a.take x.1)+val (b.take x.1)) (m:=λx=>max a.length b.length+1 - x.1) (0,0,[]) (aA.nl 5 1 1 rfl (aA.of (keep:=[0,1,5,6,7]) (ids:=[((1,0),1)]) rfl)) ⟨rfl,⟨by simp,by simp⟩,by simp,by simp⟩ ?_
 rintro⟨i,sum,f⟩ ⟨s,L,M,d⟩ R Q Y U;simp at s L M d;simp[g.xn];refine⟨λh=>?_,λh=>⟨λt=>?_,λt=>?_⟩⟩;rotate_left 2
 .refine U _ _ ?_;simp;refine dC (yl f) (by simp) ?_;simp;rw[t]at d;rw[eZ (by omega),eZ (by omega)]at d;simp at d;rw[d]
 all_goals
  refine dC (vV _ _ (by omega)) rfl ?_;simp;refine dC (vV _ _ (by omega)) rfl ?_;simp;have F:=aZ i;have j:=vC a i;have k:=vC b i;have D:=jD (a.getD i 0);have E:=jD (b.getD i 0);simp only[eV]at j k D E;generalize (a[i]?.getD 0).toNat=x at j D ⊢;generalize (b[i]?.getD 0).toNat=y at k E ⊢;have V:max a.length b.length<=i->x=0/\y=0:=λX=>by
   rw[eZ (by omega),eZ (by omega)]at j k;have u:0<4294967296^i:=qZ (by omega);constructor
   .apply Nw;intro o;have:=Cd u o;omega
   .apply Nw;intro o;have:=Cd u o;omega
  have G:((sum:Int)+(↑x + ↑y)) % 18446744073709551616 / 4294967296=(((sum+x+y) / 4294967296:Nat):Int):=by omega
  obtain⟨z,C⟩:∃ z:UInt32,z.toNat=(sum+x+y) % 4294967296:=⟨_,oH _⟩;have H:((sum:Int)+(↑x + ↑y)) % 4294967296=(z.toNat:Int):=by rw[C];omega
  rw[F,G,H];refine⟨by split at h<;>omega,Q (i+1,(sum+x+y) / 4294967296,f++[z]) _ (aA.to [0,1,5,6,7] [((34,0),1)] (by simp)) ⟨by simp[s],?_,?_,?_⟩ ?_⟩
  all_goals simp
  .split at h<;>omega
  .omega
  .rw[AZ,C,s,j,k,kJ];have n:sum+x+y=4294967296*((sum+x+y) / 4294967296)+(sum+x+y) % 4294967296:=by omega
   generalize 4294967296^i=p at d ⊢;generalize (sum+x+y) / 4294967296=q at n ⊢;generalize (sum+x+y) % 4294967296=r at n ⊢;have J:p*(sum+x+y)=p*4294967296*q+p*r:=by rw[n,sE,pX]
   rw[sE,sE]at J;omega
  .split at h<;>omega
def Ig(a b:List UInt32)(X:a.length<=1073741824)(t:val b<=val a):zS 312 [.sl (ens a),.sl (ens b)] (.sl (ens (lb (val a - val b)))):=by
 refine Sp.vz c.i9 λ_=>?_;simp[g.i9]
 refine⟨by omega,b6 (S:=λx:Nat × Nat × List UInt32=>aB [(0,.p (.sl (ens a))),(1,.p (.sl (ens b))),(5,.own 1 0 0 a.length),(6,.p (.int .u64 x.2.1)),(13,.p (.int .i64 a.length)),(14,.p (.int .i64 x.1))] [(1,⟨1,aK x.2.2⟩)])
  (I:=λx=>x.2.2.length=a.length/\x.1<=a.length/\x.2.1<=1/\val (x.2.2.take x.1)+val (b.take x.1)=val (a.take x.1)+4294967296^x.1*x.2.1) (m:=λx=>a.length - x.1) (0,0,List.replicate a.length 0)
  (aA.to [0,1,5,6,13,14] [((11,0),1)] (by simp)) ⟨by simp,by simp,by simp,by simp⟩ ?_⟩
 rintro⟨i,d,f⟩ ⟨n,L,M,D⟩ R U Y V;simp at n L M D;simp[g.xo];refine⟨λh=>?_,λh=>?_⟩
 .refine dC (vV _ _ (by omega)) rfl ?_;simp;refine dC (vV _ _ (by omega)) rfl ?_;simp;have G:=aZ i;have u:=vC a i;have C:=vC b i;have s:=jD (a.getD i 0);have F:=jD (b.getD i 0);simp only[eV]at u C s F;generalize (a[i]?.getD 0).toNat=x at u s ⊢;generalize (b[i]?.getD 0).toNat=y at C F ⊢;obtain⟨z,E⟩:∃ z:UInt32,z.toNat=(x+4294967296 - y - d) % 4294967296:=⟨_,oH _⟩;obtain⟨o,j⟩:∃ o:Nat,o=if x<y+d then 1 else 0:=⟨_,rfl⟩
  have H:((x:Int) - ↑y - ↑d) % 18446744073709551616 / 9223372036854775808=(o:Int):=by subst j;split<;>omega
  have J:((x:Int) - ↑y - ↑d) % 4294967296=(z.toNat:Int):=by rw[E];omega
  refine⟨by omega,bK (by omega) ?_⟩;rw[G,H,J];refine U (i+1,o,f.set i z) _ (aA.to [0,1,5,6,13,14] [((1,0),1)] (by simp)) ⟨by simp[n],by simp;omega,by simp;subst j;split<;>omega,?_⟩ ?_
  .simp;rw[VF (by omega),E,u,C,kJ];have W:x+4294967296*o=y+d+(x+4294967296 - y - d) % 4294967296:=by subst j;split<;>omega
   generalize 4294967296^i=p at *
   generalize (x+4294967296 - y - d) % 4294967296=r at *
   grind
  .simp;omega
 .refine V _ _ ?_;have Q:i=a.length:=by omega
  subst Q;rw[<- n,kK,n,kK,RR (oY t (oW a))]at D;have s:=oW f;rw[n]at s;have k:d=0:=by
   obtain O|O:=pW 0 d
   .have:d=1:=by omega
    subst this;omega
   .omega
  subst k;simp;refine dC (yl f) (by simp[<- n]) ?_;simp;rw[show val f=val a - val b by omega]
def Ef(a b:List UInt32)(hl:a.length<=536870912)(ad:b.length<=536870912):zS 271 [.sl (ens a),.sl (ens b)] (.sl (ens (lb (val a*val b)))):=by
 refine Sp.vz c.i7 λ_=>?_;have X:IntKind.i64.wrap ((a.length:Int)+b.length)=((a.length+b.length:Nat):Int):=cT;simp[g.i7,X];have r:((a.length:Int)+b.length).toNat=a.length+b.length:=by omega
 simp only[r]
 refine⟨by omega,b6 (S:=λx:Nat × List UInt32=>aB [(0,.p (.sl (ens a))),(1,.p (.sl (ens b))),(5,.own 1 0 0 (a.length+b.length)),(16,.p (.int .i64 a.length)),(17,.p (.int .i64 x.1))] [(1,⟨1,aK x.2⟩)])
  (I:=λx=>x.2.length=a.length+b.length/\x.1<=a.length/\val x.2=val (a.take x.1)*val b) (m:=λx=>a.length - x.1) (0,List.replicate (a.length+b.length) 0)
  (aA.to [0,1,5,16,17] [((14,0),1)] (by simp)) ⟨by simp,by simp,by simp[Jb]⟩ ?_⟩
 rintro⟨i,n⟩ ⟨C,h2,D⟩ R hn hr hx;simp at C h2 D;simp[g.xh];refine⟨λh=>?_,λh=>?_⟩
 .refine b6 (S:=λx:Nat × Nat × List UInt32=>aB [(0,.p (.sl (ens a))),(1,.p (.sl (ens b))),(5,.own 1 0 0 (a.length+b.length)),(6,.p (.int .i64 i)),(7,.p (.int .u64 x.2.1)),(8,.p (.int .i64 x.1)),(16,.p (.int .i64 a.length)),(17,.p (.int .i64 i))] [(1,⟨1,aK x.2.2⟩)])
   (I:=λx=>x.2.2.length=a.length+b.length/\x.1<=b.length+1/\x.2.1<4294967296/\val x.2.2+4294967296^i*4294967296^x.1*x.2.1=val (a.take i)*val b+4294967296^i*(a.getD i 0).toNat*val (b.take x.1)) (m:=λx=>b.length+1 - x.1) (0,0,n)
   (aA.to [0,1,5,6,7,8,16,17] [((1,0),1)] (by simp)) ⟨by simp[C],by simp,by simp,by simp[D]⟩ ?_
  rintro⟨j,sum,d⟩ ⟨J,k2,k3,f⟩ R2 F af H;simp at J k2 k3 f;simp[g.xg];have k:0<sum->j<b.length+1:=λhs=>by
   apply Nat.lt_of_not_le;intro E;have E:j=b.length+1:=by omega
   subst E;rw[Gr b (by omega)]at f;have Q:val (a.take i)*val b+4294967296^i*(a.getD i 0).toNat*val b=val (a.take (i+1))*val b:=by rw[vC];grind
   simp only[eV]at Q;rw[Q]at f;have q2:val (a.take (i+1))<4294967296^(i+1):=iL (oW _) (pV (by omega) (by simp;omega));have q3:=uJ q2 (oW b);have q4:4294967296^(i+1)*4294967296^b.length=4294967296^i*4294967296^(b.length+1):=by rw[<- Nat.pow_add,<- Nat.pow_add];congr 1;omega
   have q5:=JG (4294967296^i*4294967296^(b.length+1)) hs;omega
  refine⟨λg=>?_,λg=>⟨λu=>?_,λu=>?_⟩⟩;rotate_left 2
  .refine H _ _ ?_;simp;have s:=aZ i;rw[s];refine hn (i+1,d) _ (aA.to [0,1,5,16,17] [((1,0),1)] (by simp)) ⟨by simp[J],by simp;omega,?_⟩ (by simp;omega);simp;rw[u,Gr b (by omega)]at f;rw[vC];simp only[eV]
   grind
  all_goals
   have E:j<=b.length:=by first|omega|(have:=k u;omega)
   have M:IntKind.i64.wrap ((i:Int)+j)=((i+j:Nat):Int):=cT;have t:((i:Int)+j).toNat=i+j:=by omega
   simp[M,t];refine⟨by omega,bK (by omega) ?_⟩;refine fL (vV _ _ (by omega)) rfl ?_;simp;refine fL (vV _ _ (by omega)) rfl ?_;simp;have s:=aZ j;have L:=vC b j;have U:=jD (a.getD i 0);have V:=jD (b.getD j 0);have u2:=jD d[i+j];have W:∀ z,val (d.set (i+j) z)+4294967296^(i+j)*d[i+j].toNat=val d+4294967296^(i+j)*z.toNat:=λz=>by have:=HY d (i+j) z (by omega);simpa[List.getElem?_eq_getElem (show i+j<d.length by omega)]using this
   simp only[eV]at L U V f;rw[M,s,kZ];refine⟨by omega,bK (by omega) ?_⟩;generalize G:(a[i]?.getD 0).toNat=x at U f ⊢;generalize (b[j]?.getD 0).toNat=y at L V ⊢;generalize d[i+j].toNat=o at u2 W ⊢;have ag:x*y<=4294967295*4294967295:=mT (by omega) (by omega);obtain⟨z,O⟩:∃ z:UInt32,z.toNat=(sum+(o+x*y)) % 4294967296:=⟨_,oH _⟩;have Y:((sum:Int)+(o+x*y)) % 18446744073709551616 / 4294967296=(((sum+(o+x*y)) / 4294967296:Nat):Int):=by
    have:((x:Int)*y)=((x*y:Nat):Int):=by simp
    rw[this];omega
   have e3:((sum:Int)+(o+x*y)) % 4294967296=(z.toNat:Int):=by
    have:((x:Int)*y)=((x*y:Nat):Int):=by simp
    rw[this,O];omega
   rw[Y,e3];refine F (j+1,(sum+(o+x*y)) / 4294967296,d.set (i+j) z) _ (aA.to [0,1,5,6,7,8,16,17] [((1,0),1)] (by simp)) ⟨by simp[J],by simp;omega,by simp;omega,?_⟩ (by simp;omega);simp;have v:=W z;rw[O,rN]at v;rw[L,kJ,G];have e4:=GR (sum+(o+x*y)) 4294967296;exact QR v f e4
 .refine hx _ _ ?_;simp;refine dC (yl n) (by simp[<- C]) ?_;simp;have:i=a.length:=by omega
  subst this;rw[D,kK]
def Wo(a:List UInt32)(d:UInt32)(W:a.length<=1073741824)(hd:d≠0):zS 316 [.sl (ens a),.int .u32 d.toNat] (.bM [.sl (ens (lb (val a / d.toNat))),.int .u32 (val a % d.toNat:Nat)]):=by
 refine Sp.vz c.qa λ_=>?_;have F:IntKind.i64.wrap ((a.length:Int) - 1)=(a.length:Int) - 1:=cT;simp[g.qa,F];have f:0<d.toNat:=by
  obtain h|h:=Ci d.toNat
  .exact absurd (ye (by simpa using h)) hd
  .exact h
 have L:=jD d
 refine⟨by omega,b6 (S:=λx:Nat × Nat × List UInt32=>aB [(0,.p (.sl (ens a))),(1,.p (.int .u32 d.toNat)),(6,.own 1 0 0 a.length),(7,.p (.int .u64 x.2.1)),(8,.p (.int .i64 ((x.1:Int) - 1)))] [(1,⟨1,aK x.2.2⟩)])
  (I:=λx=>x.2.2.length=a.length/\x.1<=a.length/\x.2.1<d.toNat/\val (a.drop x.1)=val (x.2.2.drop x.1)*d.toNat+x.2.1) (m:=λx=>x.1) (a.length,0,List.replicate a.length 0)
  (aA.to [0,1,6,7,8] [((11,0),1)] (by simp)) ⟨by simp,by simp,by simpa using f,by simp⟩ ?_⟩
 rintro⟨k,r,q⟩ ⟨o,J,j,n⟩ R O X U;simp at o J j n;simp[g.xq];refine⟨λh=>?_,λh=>?_⟩
 .have V:((k:Int) - 1).toNat=k - 1:=by omega
  have G:IntKind.i64.wrap ((k:Int) - 1 - 1)=((k - 1:Nat):Int) - 1:=by rw[cL (by omega) (by omega)];omega
  simp only[G];refine bK (by omega) ⟨by omega,?_⟩;have s:=jD a[k - 1];have y:a.drop (k - 1)=a[k - 1]::a.drop k:=by rw[vJ (by omega)];congr 1;rw[show k - 1+1=k by omega]
  generalize a[k - 1]=x at s y ⊢;have D:=Ng (r:=r) (x:=x.toNat) (k:=32) (by omega) (by omega) (by omega);simp only[show(2:Int)^32=4294967296 from rfl,show(2:Nat)^32=4294967296 from rfl]at D;rw[D,Jd,T1];refine⟨by omega,by omega,bK (by omega) ⟨by omega,?_⟩⟩;obtain⟨z,t⟩:∃ z:UInt32,z.toNat=(r*4294967296+x.toNat) / d.toNat % 4294967296:=⟨_,oH _⟩;have Q:(r*4294967296+x.toNat) / d.toNat<4294967296:=by rw[Da f];have:(r+1)*4294967296<=d.toNat*4294967296:=jU _ j;rw[oI 4294967296];omega
  rw[uM Q]at t;have H:(((r*4294967296+x.toNat) / d.toNat:Nat):Int) % 4294967296=(z.toNat:Int):=by rw[t];omega
  rw[H];refine O (k - 1,(r*4294967296+x.toNat) % d.toNat,q.set (k - 1) z) _ (aA.to [0,1,6,7,8] [((1,0),1)] (by simp)) ⟨by simp[o],by simp;omega,by simp;exact Ad _ f,?_⟩ (by simp;omega);simp;have E:(q.set (k - 1) z).drop (k - 1)=z::q.drop k:=by rw[vJ (by simp;omega)];simp;rw[show k - 1+1=k by omega,Jy (by omega)]
  rw[y,E,sQ,sQ,n,t];have C:=GR (r*4294967296+x.toNat) d.toNat;generalize (r*4294967296+x.toNat) / d.toNat=u at C ⊢;generalize (r*4294967296+x.toNat) % d.toNat=w at C ⊢
  grind
 .refine U _ _ ?_;have M:k=0:=by omega
  subst M;simp at n;simp;refine dC (yl q) (by simp[<- o]) ?_;have i:(val a / d.toNat=val q/\val a % d.toNat=r):=by
   rw[n];constructor
   .rw[oI,Nat.mul_add_div f,Ac j];omega
   .rw[oI,Nat.mul_add_mod,uM j]
  simp;rw[i.1];have:=i.2;refine⟨rfl,?_⟩;rw[<- this];omega
def Xt{v p r A f x s w u d q:Nat}(m:v+p*r=A*f)(h:4294967296*u+w=x*s+r)(i:p=d*q)(j:f=d*s):v+p*w+p*4294967296*u=(A+q*x)*f:=by
 have k:p*(4294967296*u+w)=p*(x*s+r):=by rw[h]
 subst i j;simp only[sE,pX,oI,Nat.mul_left_comm]at *
 omega
def HI(a:List UInt32)(k:Nat)(hl:a.length+k<=1073741824):zS 355 [.sl (ens a),.int .i64 k] (.sl (ens (lb (val a*2^k)))):=by
 refine Sp.vz c.jc λ_=>?_;have E:IntKind.i64.wrap ((k:Int) / 32)=((k / 32:Nat):Int):=by rw[cL (by omega) (by omega)];omega
 have F:IntKind.i64.wrap (((k / 32:Nat):Int)+a.length)=((k / 32+a.length:Nat):Int):=by rw[cL (by omega) (by omega)];omega
 have G:IntKind.i64.wrap (((k / 32+a.length:Nat):Int)+1)=((k / 32+a.length+1:Nat):Int):=by rw[cL (by omega) (by omega)];omega
 simp[g.jc];rw[E,F,G]
 refine⟨⟨by omega,by omega,by omega,by omega⟩,b6 (S:=λx:Nat × Nat × List UInt32=>aB [(1,.p (.int .i64 k)),(5,.own 1 0 0 (k / 32+x.1)),(6,.p (.int .u64 x.2.1)),(18,.p (.sl (ens a))),(19,.p (.int .i64 a.length)),(20,.p (.int .i64 x.1))] [(1,⟨1,aK x.2.2⟩)])
  (I:=λx=>x.2.2.length=k / 32+x.1/\x.1<=a.length/\x.2.1<2^(k % 32)/\val x.2.2+4294967296^(k / 32+x.1)*x.2.1=val (a.take x.1)*2^k) (m:=λx=>a.length - x.1) (0,0,List.replicate (k / 32) 0)
  (aA.to [1,5,6,18,19,20] [((17,0),1)] (by simp;omega)) ⟨by simp,by simp,by simp;exact qZ (by omega),by simp[Jb]⟩ ?_⟩
 rintro⟨i,r,j⟩ ⟨d,U,D,n⟩ R X hr hx;simp at d U D n;simp[g.xt];have Q:((k:Int)).tmod 32=((k % 32:Nat):Int):=Jd k 32;have H:((k % 32:Nat):Int).toNat.min 64=k % 32:=uN (by rw[kZ];omega);have hs:=Gb (s:=k % 32) (Ad _ (by omega));have W:=Gv k;rw[Q,H];refine⟨λh=>bK h ⟨by omega,⟨by omega,by omega⟩,?_⟩,λh=>?_⟩
 .have y:=jD a[i];have C:=vC a i;simp[h]at C;generalize a[i]=x at y C ⊢;have hb:x.toNat*2^(k % 32)<=4294967295*2147483648:=mT (by omega) hs;have Y:=yft (r:=x.toNat) (x:=r) (k:=k % 32) (by omega) D (by omega);rw[Y];have J:=aZ i;obtain⟨z,f⟩:∃ z:UInt32,z.toNat=(x.toNat*2^(k % 32)+r) % 4294967296:=⟨_,oH _⟩;have L:((x.toNat*2^(k % 32)+r:Nat):Int) / 4294967296=(((x.toNat*2^(k % 32)+r) / 4294967296:Nat):Int):=by omega
  have o:((x.toNat*2^(k % 32)+r:Nat):Int) % 4294967296=(z.toNat:Int):=by rw[f];omega
  have t:(x.toNat*2^(k % 32)+r) / 4294967296<2^(k % 32):=by rw[Da (by omega)];have:(x.toNat+1)*2^(k % 32)<=4294967296*2^(k % 32):=jU _ (by omega);rw[sT]at this;omega
  rw[J,L,o];refine X (i+1,(x.toNat*2^(k % 32)+r) / 4294967296,j++[z]) _ (aA.to [1,5,6,18,19,20] [((35,0),1)] (by simp;omega)) ⟨by simp[d];omega,by simp;omega,by simpa using t,?_⟩ (by simp;omega);simp;have M:=Nat.div_add_mod (x.toNat*2^(k % 32)+r) 4294967296;rw[AZ,d,f,C,show k / 32+(i+1)=k / 32+i+1 by omega,Nat.pow_succ];have O:4294967296^(k / 32+i)=4294967296^(k / 32)*4294967296^i:=Nat.pow_add _ _ _;generalize (x.toNat*2^(k % 32)+r) / 4294967296=u at *
  generalize (x.toNat*2^(k % 32)+r) % 4294967296=w at *
  exact Xt n M O W
 .refine hx _ _ ?_;have V:i=a.length:=by omega
  subst V;simp;obtain⟨z,f⟩:∃ z:UInt32,z.toNat=r % 4294967296:=⟨_,oH _⟩;have o:(r:Int) % 4294967296=(z.toNat:Int):=by rw[f];omega
  rw[o];refine⟨⟨by omega,by omega⟩,dC (yl (j++[z])) (kX (uF rfl (by simp) (by simp[d])) pS) ?_⟩;simp;rw[AZ,f,d];rw[kK]at n;rw[uM (by omega),n]
def yae(a:List UInt32)(k:Nat)(hl:a.length<=1073741824)(hk:k<4294967296):zS 356 [.sl (ens a),.int .i64 k] (.sl (ens (lb (val a / 2^k)))):=by
 refine Sp.vz c.qf λ_=>?_;obtain⟨q,Y⟩:∃ q,k / 32=q:=⟨_,rfl⟩;obtain⟨s,E⟩:∃ s,k % 32=s:=⟨_,rfl⟩;have J:IntKind.i64.wrap ((k:Int) / 32)=(q:Int):=by rw[cL (by omega) (by omega)];omega
 simp[g.qf];rw[J];obtain⟨A,u⟩:∃ A,A=val (a.drop q) / 2^s:=⟨_,rfl⟩
 refine b6 (S:=λx:Nat × List UInt32=>aB [(0,.p (.sl (ens a))),(1,.p (.int .i64 k)),(5,.own 1 0 0 x.1),(6,.p (.int .i64 ((q:Int)+x.1)))] [(1,⟨1,aK x.2⟩)])
  (I:=λx=>x.2.length=x.1/\(q+x.1<=a.length\/x.1=0)/\val x.2=A % 4294967296^x.1) (m:=λx=>a.length - (q+x.1)) (0,[]) (aA.nl 5 1 1 rfl (aA.to [0,1,5,6] [((1,0),1)] (by simp))) ⟨rfl,by simp,by simp[Nat.mod_one]⟩ ?_
 rintro⟨j,d⟩ ⟨f,W,t⟩ R X hr hx;simp at f W t;simp[g.xu];have U:((k:Int)).tmod 32=(s:Int):=by rw[<- E];exact Jd k 32
 have L:s.min 64=s:=uN (by omega);have ad:=Gb (s:=s) (by omega);refine⟨λh=>?_,λh=>?_⟩
 .have V:IntKind.i64.wrap ((q:Int)+j+1)=(q:Int)+j+1:=by rw[cL (by omega) (by omega)]
  have Q:((q:Int)+j+1).toNat=q+j+1:=by omega
  have o:((q:Int)+j).toNat=q+j:=by omega
  rw[V];refine dC (vV _ _ (by omega)) rfl ?_;simp;refine dC (vV _ _ (by omega)) rfl ?_;simp;rw[U,Q,o,cL (by omega) (by omega)];have i:=RQ a (q+j);have n:=RQ a (q+j+1);have G:=jD (a.getD (q+j) 0);have H:=jD (a.getD (q+j+1) 0);simp only[eV]at i n G H;generalize (a[q+j]?.getD 0).toNat=x at i G ⊢;generalize (a[q+j+1]?.getD 0).toNat=y at n H ⊢;have D:=Ng (r:=y) (x:=x) (k:=32) (by omega) (by omega) (by omega);simp only[show(2:Int)^32=4294967296 from rfl,show(2:Nat)^32=4294967296 from rfl]at D;rw[D,kZ,L];obtain⟨z,F⟩:∃ z:UInt32,z.toNat=(y*4294967296+x) / 2^s % 4294967296:=⟨_,oH _⟩;have M:((y*4294967296+x:Nat):Int) / 2^s % 4294967296=(z.toNat:Int):=by rw[F];simp
  rw[M];refine⟨by omega,by omega,X (j+1,d++[z]) _ (aA.to [0,1,5,6] [((30,0),1)] (by simp;omega)) ⟨by simp[f],by simp;omega,?_⟩ (by simp;omega)⟩;simp;have O:A / 4294967296^j=val (a.drop (q+j)) / 2^s:=by rw[u,NH,oI,<- Nat.div_div_eq_div_mul,HX,uQ]
  rw[AZ,f,t,F,Nat.mod_pow_succ,O,i,n,Vd _ _ _ _ (by omega)]
 .refine hx _ _ ?_;simp;refine dC (yl d) (kX (uF rfl rfl f.symm) pS) ?_;simp;have:val a / 2^k=A:=by rw[Gv k,Y,E,<- Nat.div_div_eq_div_mul,HX,u]
  rw[this,t,uM];have C:=oW (a.drop q);rw[lp]at C;refine oY (u ▸ Cc _ _) (iL C (pV (by omega) (by omega)))
open Enc (enc)
def gN{α : Type}(p : α -> Bool)(l:List α):Int:=match l.findIdx? p with|some i=>i|none =>-1
section
variable {α : Type} {p : α -> Bool} {l:List α}
def Gj(h:∀ x∈l,p x=false):gN p l = -1:=by unfold gN;rw[GQ.2 h]
def FD{k:Nat}(f:k<l.length)(h:∀ x∈l.take k,p x=false)(d:p l[k]=true):gN p l=k:=by
 unfold gN;have:l.findIdx? p=some k:=by rw[GP];refine⟨f,d,λj i=>?_⟩;have:=h l[j] (by rw[List.mem_take_iff_getElem];exact⟨j,by omega,rfl⟩);simp[this]
 rw[this]
theorem MO:(decide (0<=gN p l))=l.any p:=by
 unfold gN;cases h:l.findIdx? p with
 | none =>
  have:=GQ.1 h;simp;exact λx f=>this x f
 | some i =>
  obtain⟨j,d,_⟩:=GP.1 h;simp;exact⟨l[i],bU _,d⟩
end
def yn(st:St)(l:List PV):(l.map AV.p).mapM (bH st bF)=some l:=Se 5 st l
theorem Sp.oO{P:Program}{f:FuncId}{r:RV}(i:Sp P f [.nl] r)(j:Sp P f [.sle] r):Sp P f [.sl []] r:=by
 refine⟨i.1,λw M vals d k=>?_⟩;cases k with
 | cons _ x _ xs m h =>
  cases h;cases m with
  | rB a cap =>
   cases a with
   | none=>exact i.2 w M _ d (.cons _ _ _ _ (.nl cap) .nil)
   | some a=>exact j.2 w M _ d (.cons _ _ _ _ (.sle a cap) .nil)
  | sl _ b o cap=>exact j.2 w M _ d (.cons _ _ _ _ (.sle _ cap) .nil)
end Go.Ab
namespace Go.Ab
open Enc (enc)
attribute [local simp] iJ bP.aY
def mO(n:Nat):Nat:=if n=0 then 0 else Nat.log2 n+1
def len8:List UInt8:=[0,1,2,2,3,3,3,3,4,4,4,4,4,4,4,4,5,5,5,5,5,5,5,5,5,5,5,5,5,5,5,5,6,6,6,6,6,6,6,6,6,6,6,6,6,6,6,6,6,6,6,6,6,6,6,6,6,6,6,6,6,6,6,6,7,7,7,7,7,7,7,7,7,7,7,7,7,7,7,7,7,7,7,7,7,7,7,7,7,7,7,7,7,7,7,7,7,7,7,7,7,7,7,7,7,7,7,7,7,7,7,7,7,7,7,7,7,7,7,7,7,7,7,7,7,7,7,7]++List.replicate 128 8
def ybe:∀ n,n<256->len8[n]?=some (UInt8.ofNat (mO n)):=by decide +kernel
def Ei{n m:Nat}:mO n<=m ↔ n<2^m:=by
 unfold mO;split
 .rename_i h;subst h;simp[Nat.two_pow_pos]
 .rename_i h;rw[<- Nat.log2_lt h];omega
def Iv{n k:Nat}(h:2^k<=n):mO n=k+mO (n / 2^k):=by
 have key:∀ m,mO n<=m ↔ k+mO (n / 2^k)<=m:=by
  intro m;rw[Ei];by_cases f:k<=m
  .have:k+mO (n / 2^k)<=m ↔ mO (n / 2^k)<=m - k:=by omega
   rw[this,Ei,Da (Nat.two_pow_pos k),<- Nat.pow_add,Nat.sub_add_cancel f]
  .have:2^m<=2^k:=pV (by omega) (by omega);constructor
   .intro d;omega
   .intro d;omega
 have i:=(key (mO n)).1 (dE _);have d:=(key (k+mO (n / 2^k))).2 (dE _);omega
def yf7(n:Nat)(h:n<256):∃ b:UInt8,len8[n]?=some b/\b.toNat=mO n:=by refine⟨_,ybe n h,?_⟩;have:mO n<=8:=Ei.2 (by omega);simp[UInt8.toNat_ofNat'];omega
def Ts:(Ow [0,1,2,2,3,3,3,3,4,4,4,4,4,4,4,4,5,5,5,5,5,5,5,5,5,5,5,5,5,5,5,5,6,6,6,6,6,6,6,6,6,6,6,6,6,6,6,6,6,6,6,6,6,6,6,6,6,6,6,6,6,6,6,6,7,7,7,7,7,7,7,7,7,7,7,7,7,7,7,7,7,7,7,7,7,7,7,7,7,7,7,7,7,7,7,7,7,7,7,7,7,7,7,7,7,7,7,7,7,7,7,7,7,7,7,7,7,7,7,7,7,7,7,7,7,7,7,7,8,8,8,8,8,8,8,8,8,8,8,8,8,8,8,8,8,8,8,8,8,8,8,8,8,8,8,8,8,8,8,8,8,8,8,8,8,8,8,8,8,8,8,8,8,8,8,8,8,8,8,8,8,8,8,8,8,8,8,8,8,8,8,8,8,8,8,8,8,8,8,8,8,8,8,8,8,8,8,8,8,8,8,8,8,8,8,8,8,8,8,8,8,8,8,8,8,8,8,8,8,8,8,8,8,8,8,8,8,8,8,8,8,8,8,8,8,8,8,8,8,8,8,8,8,8,8,8]).data.toList=len8:=by decide +kernel
def Xu(x:UInt32):zS 399 [.int .u32 x.toNat] (.int .i64 (mO x.toNat)):=by
 have M:=x.toNat_lt;generalize x.toNat=n at *
 have d:∀ (m k:Nat),m<256->mO n=k+mO m->∀ (z:Int),z=m->∃ e,len8[z.toNat]?=some e/\(0<=z)/\IntKind.i64.wrap (e.toNat:Int)=e.toNat/\∀ u:Int,u=k->IntKind.i64.wrap (u+e.toNat)=(mO n:Nat):=by intro m k H L z J;subst J;obtain⟨b,t,r⟩:=yf7 m H;have:mO m<=8:=Ei.2 (by omega);have I:mO n<=32:=Ei.2 (by omega);exact⟨b,by simpa using t,by omega,cL (by omega) (by omega),λu G=>by rw[cL (by omega) (by omega)];omega⟩
 refine Sp.vz c.jd λ_=>?_;simp[g.jd,Ts];refine⟨λt=>⟨λr=>?_,λr=>?_⟩,λt=>⟨λr=>?_,λr=>?_⟩⟩
 .have o:mO n=24+mO (n / 65536 / 256):=by have C:=Iv (n:=n) (k:=16) (by omega);have D:=Iv (n:=n / 2^16) (k:=8) (by omega);simp only[Nat.reducePow]at C D;omega
  obtain⟨e,f,h,i,j⟩:=d (n / 65536 / 256) 24 (by omega) o ((n:Int) / 65536 / 256 % 256) (by omega);rw[lM];refine⟨e,f,?_⟩;have s:IntKind.i64.wrap 24=24:=cT;simp[h,s,i,j 24 rfl]
 .have o:mO n=16+mO (n / 65536):=Iv (n:=n) (k:=16) (by omega);obtain⟨e,f,h,i,j⟩:=d (n / 65536) 16 (by omega) o ((n:Int) / 65536 % 256) (by omega);rw[lM];refine⟨e,f,?_⟩;simp[h,i,j 16 rfl]
 .have o:mO n=8+mO (n / 256):=Iv (n:=n) (k:=8) (by omega);obtain⟨e,f,h,i,j⟩:=d (n / 256) 8 (by omega) o ((n:Int) / 256 % 256) (by omega);rw[lM];refine⟨e,f,?_⟩;have E:IntKind.i64.wrap 8=8:=cT;simp[h,E,i,j 8 rfl]
 .obtain⟨e,f,h,i,j⟩:=d n 0 (by omega) (by omega) ((n:Int) % 256) (by omega);have y:=j 0 rfl;rw[Int.zero_add,i]at y;have I:mO n<=32:=Ei.2 (by omega);have F:IntKind.i64.wrap ((mO n:Nat):Int)=(mO n:Nat):=cT;rw[lM];refine⟨e,f,?_⟩;simp[h,y,F]
def ybl(l:List Int)(f:FuncId)(d:List PV)(p:Int->Bool)(u:l.length<=4611686018427387904)(o:∀ x∈l,Sp P f (enc x::d) (.pure (.bool (p x)))) :
  zS 180 [.sl (ens l),.fn f d] (.int .i64 (gN p l)):=by
 refine Sp.vz c.o9 λ_=>?_;simp[g.o9]
 refine b6 (S:=λk:Nat=>aB [(0,.p (.sl (ens l))),(1,.p (.fn f d)),(7,.p (.int .i64 l.length)),(8,.p (.int .i64 k))] []) (I:=λk=>k<=l.length/\∀ x∈l.take k,p x=false) (m:=λk=>l.length - k) 0
  (aA.to [0,1,7,8] [] (by simp)) ⟨by omega,by simp⟩ ?_
 rintro k ⟨t,j⟩ R r s h;have n:=aZ k;simp[g.ww,aB];refine⟨λi=>?_,λi=>h _ _ ?_⟩
 .refine bK i ?_
  try simp
  refine bA (o l[k] (bU i)) (kX rfl (yn _ _)) ?_;obtain h3|h3:=iK (p l[k])
  .simp[h3];refine s _ ?_;simp[FD i j h3]
  .simp[h3,n];refine r (k+1) _ (aA.to [0,1,7,8] [] (by simp)) ⟨by omega,λx h=>?_⟩ (by omega);rw[ed i]at h;obtain h|h:=dN.1 h
   .exact j x h
   .simp at h;rw[h];exact h3
 .have:k=l.length:=by omega
  subst this;simp[Gj (p:=p) (l:=l) (by simpa using j)]
def ygm(l:List Int)(f:FuncId)(d:List PV)(p:Int->Bool)(i:l.length<=4611686018427387904)(h:∀ x∈l,Sp P f (enc x::d) (.pure (.bool (p x)))) :
  zS 140 [.sl (ens l),.fn f d] (.bool (l.any p)):=by
 refine Sp.vz c.ol λ_=>?_;simp[g.ol];refine bA (ybl l f d p i h) rfl ?_;simp[MO]
theorem VI(l:List UInt32)(d:l.length<=2147483648):zS 313 [.sl (ens l)] (.sl (ens l)):=by
 cases l with
 | nil =>
  refine Sp.oO ?_ ?_
  .refine Sp.vz c.b9 λ_=>?_;simp[g.b9]
  .refine Sp.vz c.b9 λ_=>?_;simp[g.b9,eL]
 | cons x l =>
  refine Sp.vz c.b9 λ_=>?_;simp at d;simp[g.b9,eL,d]
theorem Qp(l:List Int)(d:l.length<=2147483648):zS 62 [.sl (ens l)] (.sl (ens l)):=by
 cases l with
 | nil =>
  refine Sp.oO ?_ ?_
  .refine Sp.vz c.bp λ_=>?_;simp[g.bp]
  .refine Sp.vz c.bp λ_=>?_;simp[g.bp,eL]
 | cons x l =>
  refine Sp.vz c.bp λ_=>?_;simp at d;simp[g.bp,eL,d]
end Go.Ab
namespace Go.Ab
def u'(n:Nat):Nat:=if n=0 then 0 else Nat.log2 n+1
def R0{x:Nat}(h:x<4294967296):u' x<=32:=by
 unfold u';split
 .omega
 .have:=(Nat.log2_lt (n:=x) (k:=32) (by assumption)).2 h;omega
def ycv{x:Nat}(h:x≠0):1<=u' x:=by unfold u';rw[bD h];omega
def ybf(x:UInt32):zS 399 [.int .u32 x.toNat] (.int .i64 (u' x.toNat)):=Xu x
def Rs(l:List UInt32)(d:l.length<=2147483648):zS 313 [.sl (ens l)] (.sl (ens l)):=VI l d
def Zi(x:UInt32):zS 383 [.int .u32 x.toNat] (.int .i64 (32 - u' x.toNat:Int)):=by refine Sp.vz c.qi λ_=>?_;have:=R0 (jD x);simp[g.qi];refine dC (ybf x) rfl ?_;simp;rw[cL (by omega) (by omega)]
def Xv(a:List UInt32)(r:a.length<=16777216)(d:a≠[])(k:gK a):∃ s:Nat,s<=31/\zS 354 [.sl (ens a)] (.int .i64 (32*a.length - s:Int)):=by
 have t:0<a.length:=Dd.2 d;have m:a[a.length - 1].toNat≠0:=λh=>k (by
  rw[List.getLast?_eq_getElem?,List.getElem?_eq_getElem (by omega)];exact congrArg some (ye (by simpa using h)))
 have n:=R0 (jD a[a.length - 1]);have o:=ycv m;refine⟨32 - u' a[a.length - 1].toNat,by omega,?_⟩;refine Sp.vz c.qe λ_=>?_;have f:IntKind.i64.wrap ((a.length:Int) - 1)=(a.length:Int) - 1:=cT;have i:IntKind.i64.wrap (32*(a.length:Int))=32*(a.length:Int):=cT;have j:((a.length:Int) - 1).toNat=a.length - 1:=by omega
 simp[g.qe,d,f,i,j];refine bK (by omega) ⟨by omega,dC (Zi _) rfl ?_⟩;simp;rw[cL (by omega) (by omega)];omega
def KH(a b:List UInt32)(hl:a.length<=4194304)(cv:b.length<=4194304)(hb:val b≠0)(br:gK b):zS 309 [.sl (ens a),.sl (ens b)] (.bM [.sl (ens (lb (val a / val b))),.sl (ens (lb (val a % val b)))]):=by
 refine Sp.vz c.lr λ_=>?_;have h0:b≠[]:=λh=>hb (by rw[h];rfl);obtain⟨s,hs,al⟩:=Xv b (by omega) h0 br;have e1:IntKind.i64.wrap (32*(b.length:Int))=32*(b.length:Int):=cT;simp[g.lr,e1];refine⟨λh1=>?_,λh1=>?_⟩
 .obtain⟨d,rfl⟩:∃ d,b=[d]:=Jx.1 (by omega);simp at hb;refine bK (by simp) ?_;have hd:d≠0:=λh=>hb (by rw[h];rfl);refine dC (Wo a d (by omega) hd) (by simp) ?_;simp;have e7:((val a:Int) % d.toNat)=((UInt32.ofNat (val a % d.toNat)).toNat:Int):=by have:=Ad (val a) (y:=d.toNat) (by omega);have:=jD d;rw[oH,uM (by omega)];simp
  rw[e7];generalize hz:UInt32.ofNat (val a % d.toNat)=z;refine dC (yl [z]) (kX (uF rfl (by simp) (by simp)) pS) ?_;simp;have:=Ad (val a) (y:=d.toNat) (by omega);have:=jD d;rw[<- hz,oH,uM (a:=val a % d.toNat) (by omega)]
 .have X:val b*2^s≠0:=yr2 hb (GO.1 (qZ (by omega)));have cx:=Gb (s:=s) (by omega);have cc:=nR (n:=val a*2^s) (k:=a.length+1) (by rw[kJ];exact uJ (oW a) (by omega));have ce:=nR (n:=val b*2^s) (k:=b.length+1) (by rw[kJ];exact uJ (oW b) (by omega));have Q:=MB X;have ad:=uB (val a*2^s);have F:=Mh X;have M:val a / val b=val a*2^s / (val b*2^s)/\val a % val b=val a*2^s % (val b*2^s) / 2^s:=by have hp:0<2^s:=qZ (by omega);rw[Nat.mul_mod_mul_right,Nat.mul_div_cancel _ hp,Nat.mul_div_mul_right _ _ hp];exact⟨rfl,rfl⟩
  refine dC al rfl ?_;have e3:IntKind.i64.wrap (32*(b.length:Int) - (32*b.length - s))=s:=by rw[cL (by omega) (by omega)];omega
  simp[e3];refine dC (HI a s (by omega)) rfl ?_;simp;refine dC (HI b s (by omega)) rfl ?_;simp;rw[M.1,M.2];generalize val a*2^s=U0 at *
  generalize val b*2^s=V at *
  obtain⟨Y,O⟩:∃ n,(lb U0).length=n:=⟨_,rfl⟩;obtain⟨f,j⟩:∃ n,(lb V).length=n:=⟨_,rfl⟩;rw[O,j];rw[O]at ad cc;rw[j]at F Q ce;obtain⟨K,hK⟩:∃ K,K=Y+1 - f:=⟨_,rfl⟩;have e4:IntKind.i64.wrap (IntKind.i64.wrap ((Y:Int) - f)+1)=(Y:Int) - f+1:=by rw[cL (n:=(Y:Int) - f) (by omega) (by omega),cL (by omega) (by omega)]
  have e5:(if 0<(Y:Int) - f+1 then(Y:Int) - f+1 else 0)=(K:Int):=by split<;>omega
  rw[e4,e5];simp only[kZ];have e6:IntKind.i64.wrap (max (K:Int) 0 - 1)=(K:Int) - 1:=by rw[cL (by omega) (by omega)];omega
  rw[e6];have hp:∀ k,0<4294967296^k:=λk=>qZ (by omega);have af:0<V:=by omega
  refine⟨⟨by omega,by omega⟩,b6 (S:=λx:Nat × Nat × List UInt32=>aB [(4,.own 1 0 0 K),(8,.p (.int .i64 s)),(9,.p (.sl (ens (lb x.2.1)))),(10,.p (.sl (ens (lb V)))),(11,.p (.int .i64 ((x.1:Int) - 1)))] [(1,⟨1,aK (List.replicate x.1 (0:UInt32)++x.2.2)⟩)])
   (I:=λx=>x.1+x.2.2.length=K/\x.2.1<V*4294967296^x.1/\U0=x.2.1+V*4294967296^x.1*val x.2.2) (m:=λx=>x.1) (K,U0,[])
   (aA.to [4,8,9,10,11] [((49,0),1)] (by simp)) ⟨by simp,?_,by simp⟩ ?_⟩
  .simp;refine iL ad ?_;obtain h|h:=pW (Y+1) f
   .rw[show K=0 by omega];simp;exact dM (pV (by omega) (by omega)) F
   .refine dM ?_ (jU _ F);rw[<- Nat.pow_add];exact pV (by omega) (by omega)
  rintro⟨k,U,hi⟩ ⟨h1,L,h3⟩ R hn hr hx;simp at h1 L h3;obtain _|i:=k
  .simp[g.uj];refine hx _ _ ?_;simp at h1 L h3;simp;refine dC (yl hi) (kX (uF rfl (by simp) (by omega)) pS) ?_;simp;refine dC (yae (lb U) s (by have:=nR (n:=U) (k:=f) (Nat.lt_trans L (by rw[<- j];exact uB V));omega) (by omega)) (by simp) ?_;simp;have q1:U0 / V=val hi:=by rw[h3,JA _ _ af,Ac L];omega
   have q2:U0 % V=U:=by rw[h3,Nv,uM L]
   rw[q1,q2];exact⟨rfl,rfl⟩
  .have en:IntKind.i64.wrap ((i:Int)+f)=(i:Int)+f:=cT;have aw:IntKind.i64.wrap ((i:Int)+f - 1)=(i:Int)+f - 1:=cT;have bb:IntKind.i64.wrap ((f:Int) - 1)=(f:Int) - 1:=cT;have t0:((i:Int)+f).toNat=i+f:=by omega
   have t1:((i:Int)+f - 1).toNat=i+f - 1:=by omega
   have t2:((f:Int) - 1).toNat=f - 1:=by omega
   have bo:U<4294967296^(i+f - 1+2):=by refine iL L ?_;have:=uB V;rw[j]at this;rw[show i+f - 1+2=f+(i+1) by omega,rN (m:=f)];exact jU _ (Bd this)
   have t:=YM bo;rw[show i+f - 1+1=i+f by omega]at t;have C:=X9 X;rw[j]at C;have J:=ybo (i:=i) F Q L;simp[g.uj,j,en];refine dC (vV _ _ (by omega)) rfl ?_;simp[aw];refine dC (vV _ _ (by omega)) rfl ?_;simp[bb,j];refine dC (vV _ _ (by omega)) rfl ?_;simp[t0,t2];have u1:=jD ((lb U).getD (i+f) 0);have u2:=jD ((lb U).getD (i+f - 1) 0);simp only[eV]at t C u1 u2;rw[C.1];generalize ((lb U)[i+f]?.getD 0).toNat=x at t u1 ⊢;generalize ((lb U)[i+f - 1]?.getD 0).toNat=y at t u2 ⊢;have ho:=Ng (r:=x) (x:=y) (k:=32) (by omega) (by omega) (by omega);simp only[show(2:Int)^32=4294967296 from rfl,show(2:Nat)^32=4294967296 from rfl]at ho;have co:U / 4294967296^(i+f - 1)<18446744073709551616:=by omega
   rw[ho,t,T1];have hE:U / 4294967296^(i+f - 1) / (V / 4294967296^(f - 1))<18446744073709551616:=oY (Cc _ _) (by omega);generalize U / 4294967296^(i+f - 1) / (V / 4294967296^(f - 1))=E at hE J ⊢;obtain⟨G,hG⟩:∃ G,G=min E 4294967295:=⟨_,rfl⟩;have eG:(if (4294967295:Int)<(E:Int) % 18446744073709551616 then(4294967295:Int)else(E:Int) % 18446744073709551616)=(G:Int):=by split<;>omega
   rw[eG];rw[<- hG]at J;obtain⟨z,hz⟩:∃ z:UInt32,z.toNat=G:=⟨UInt32.ofNat G,by rw[oH];omega⟩;have ez:(G:Int) % 4294967296=(z.toNat:Int):=by omega
   rw[ez];have cf:¬ (V / 4294967296^(f - 1)=0):=by omega
   refine⟨cf,dC (yl [z]) (kX (uF rfl (by simp) (by simp)) pS) ?_⟩;have ei:IntKind.i64.wrap (32*(i:Int))=((32*i:Nat):Int):=by rw[cL (by omega) (by omega)];omega
   have cy:=nR (n:=z.toNat) (k:=1) (by have:=jD z;omega);simp;refine dC (Ef (lb V) (lb z.toNat) (by omega) (by omega)) (by simp) ?_;simp[ei];have cs:=nR (n:=V*z.toNat) (k:=f+1) (by rw[kJ];exact uJ (by rw[<- j];exact uB V) (jD z));refine dC (HI (lb (V*z.toNat)) (32*i) (by omega)) (by simp) ?_;simp[Ui];have ct:U / (V*4294967296^i)<=z.toNat:=by omega
   refine b6 (S:=λg:Nat=>aB [(4,.own 1 0 0 K),(8,.p (.int .i64 s)),(9,.p (.sl (ens (lb U)))),(10,.p (.sl (ens (lb V)))),(11,.p (.int .i64 i)),(13,.p (.int .u64 g)),(14,.p (.sl (ens (lb (V*g*4294967296^i)))))] [(1,⟨1,aK (List.replicate (i+1) (0:UInt32)++hi)⟩)])
    (I:=λg=>U / (V*4294967296^i)<=g/\g<=4294967295) (m:=λg=>g) G (aA.to [4,8,9,10,11,13,14] [((1,0),1)] (by simp[hz])) ⟨by omega,by omega⟩ ?_
   rintro o ⟨g1,g2⟩ R2 ca cw cm;simp[g.xm];refine dC (Cx (lb U) (lb (V*o*4294967296^i))) rfl ?_;simp only[DU,go_sem]at *
   simp[ycj];have W:0<V*4294967296^i:=Cd af (hp i);have eg:V*o*4294967296^i=o*(V*4294967296^i):=by rw[oI V o,pX]
   refine⟨λbx=>?_,λu=>?_⟩
   .have H:U / (V*4294967296^i)<o:=by rw[Da W,<- eg];exact bx
    have cu:0<o:=oY (vI _) H;obtain⟨D,rfl⟩:∃ D,o=D+1:=⟨o - 1,by clear H J g1;omega⟩;simp only[ei];refine dC (HI (lb V) (32*i) (by omega)) (by simp) ?_;simp[Ui];have bu:=nR (n:=V*(D+1)*4294967296^i) (k:=f+1+i) (by
     rw[rN,kJ];exact Nat.mul_lt_mul_of_pos_right (uJ (by rw[<- j];exact uB V) (by omega)) (hp i))
    have ag:V*4294967296^i<=V*(D+1)*4294967296^i:=by rw[eg];exact Jw _ (by omega)
    refine dC (Ig (lb (V*(D+1)*4294967296^i)) (lb (V*4294967296^i)) (by omega) (by simpa using ag)) (by simp) ?_;simp;refine ca D _ (aA.to [4,8,9,10,11,13,14] [((1,0),1)] ?_) ⟨Nat.le_of_lt_succ H,by clear H J g1;omega⟩ (by simp);have e9:((D:Int)+1 - 1) % 18446744073709551616=D:=by omega
    have ap:V*(D+1)*4294967296^i - V*4294967296^i=V*D*4294967296^i:=by rw[Nat.mul_succ,sT];omega
    simp[ap];omega
   .refine cm _ _ ?_;have bt:o=U / (V*4294967296^i):=by
     have:o<=U / (V*4294967296^i):=by rw[Jz W,<- eg];exact u
     omega
    simp;have cp:=nR (n:=U) (k:=f+(i+1)) (Nat.lt_of_lt_of_le L (by rw[Nat.pow_add (m:=f)];exact Nat.mul_le_mul_right _ (Nat.le_of_lt (by rw[<- j];exact uB V))));refine dC (Ig (lb U) (lb (V*o*4294967296^i)) (by omega) (by simpa using u)) (by simp) ?_;simp;refine⟨⟨by omega,by omega⟩,?_⟩;rw[lM];refine bK (by simp;omega) ?_;simp;obtain⟨z',cn⟩:∃ z':UInt32,z'.toNat=o:=⟨UInt32.ofNat o,by rw[oH];omega⟩;have bk:(o:Int) % 4294967296=(z'.toNat:Int):=by omega
    have av:IntKind.i64.wrap ((i:Int) - 1)=(i:Int) - 1:=cT;rw[bk,av];have ao:(List.replicate (i+1) (AV.p (.int .u32 0))).set i (AV.p (.int .u32 z'.toNat))=List.replicate i (AV.p (.int .u32 0))++[AV.p (.int .u32 z'.toNat)]:=by rw[Jv,C' _ _ (by simp)];simp
    refine hn (i,U - V*o*4294967296^i,z'::hi) _ (aA.to [4,8,9,10,11] [((1,0),1)] (by simp[ao])) ⟨by simp;omega,?_,?_⟩ (by simp)
    .simp only;rw[eg,bt];have:=GR U (V*4294967296^i);have h9:=Ad U W;rw[oI]at this;omega
    .simp only[sQ,cn];rw[h3,sE,<- Nat.mul_assoc,kJ,eg];rw[eg]at u;have aq:V*4294967296^i*o=o*(V*4294967296^i):=oI _ _;have au:V*(4294967296^i*4294967296)=V*4294967296^i*4294967296:=by rw[pX]
     rw[aq,au];omega
open Enc (enc)
structure aT where
 neg:Bool
 num:List UInt32
 den:List UInt32
instance:Enc aT:=⟨λx=>.agg [.bool x.neg,.sl (ens x.num),.sl (ens x.den)],3,by decide,λ_=>rfl⟩
@[simp] theorem ynf(x:aT):enc x=.agg [.bool x.neg,.sl (ens x.num),.sl (ens x.den)]:=rfl
@[simp] theorem yjx:Enc.sz aT=3:=rfl
instance (l:List UInt32):Decidable (gK l):=inferInstanceAs (Decidable (¬ _))
def aT.valid(x:aT):Bool :=
 decide (gK x.num)&&decide (gK x.den)&&(if x.num=[]then !x.neg&&decide (x.den=[])else decide (x.den=[]\/(val x.den≠1/\Nat.gcd (val x.num) (val x.den)=1)))
def aT.sm(x:aT)(n:Nat):Prop:=x.num.length<=n/\x.den.length<=n
@[simp] theorem ykl:gK []:=by simp[gK]
def T8(a b:List UInt32)(C:a.length<=4194304)(k:b.length<=4194304)(u:gK a)(z:gK b):zS 266 [.sl (ens a),.sl (ens b)] (.sl (ens (lb (Nat.gcd (val a) (val b))))):=by
 refine Sp.vz c.lh λ_=>?_;simp[g.lh];refine b6 (S:=λx:List UInt32 × List UInt32=>aB [(0,.p (.sl (ens x.1))),(1,.p (.sl (ens x.2)))] []) (I:=λx=>x.1.length<=4194304/\x.2.length<=4194304/\gK x.1/\gK x.2/\Nat.gcd (val x.1) (val x.2)=Nat.gcd (val a) (val b)) (m:=λx=>val x.2) (a,b) (aA.of (keep:=[0,1]) (ids:=[]) rfl) ⟨C,k,u,z,rfl⟩ ?_;rintro⟨x,y⟩ ⟨n,j,o,f,i⟩ R D F E;simp at n j o f i;simp[g.xf];refine⟨λh=>?_,λh=>E _ _ ?_⟩
 .have s:val y≠0:=λt=>by rw[<- wD f,t]at h;simp at h
  refine dC (KH x y n j s f) rfl ?_;simp;have d:=Nat.mod_lt (val x) (Nat.pos_of_ne_zero s);have r:=nR (Nat.lt_trans d (oW y));refine D (y,lb (val x % val y)) _ (aA.of (keep:=[0,1]) (ids:=[]) rfl) ⟨j,by simp only;omega,f,tT _,?_⟩ (by simpa using d);simp only[DU];rw[<- i,Nat.gcd_comm (val x),Nat.gcd_rec (val y) (val x),Nat.gcd_comm]
 .subst h;simp at i;simp;rw[<- i,wD o]
def CB:zS 265 [] (.sl (ens [(1:UInt32)])):=by refine Sp.vz c.i6 λ_=>?_;simp[g.i6]
def Qd(a:List UInt32):zS 263 [.sl (ens a)] (.bool (decide (gK a))):=by
 refine Sp.vz c.pn λi=>?_;have k:=FG i.1;have e:IntKind.i64.wrap (↑a.length - 1) = ↑a.length - 1:=cT;have d:((a.length:Int) - 1).toNat=a.length - 1:=by omega
 simp[g.pn,e,d];refine⟨λh=>by subst h;simp[gK],λh=>?_⟩;have m:=List.length_pos_iff.2 h;refine bK (by omega) ⟨by omega,?_⟩;have j:(a[a.length - 1].toNat=0) ↔ ¬ gK a:=by simp only[gK,List.getLast?_eq_getElem?,List.getElem?_eq_getElem (show a.length - 1<a.length by omega)];simp;exact⟨λh=>ye (by simpa using h),λh=>by rw[h];rfl⟩
 by_cases f:gK a<;>simp[f,j]
def Mp(x:aT)(n:x.sm 4194304):zS 194 [enc x] (.bool x.valid):=by
 obtain⟨k,m⟩:=n;refine Sp.vz c.g8 λ_=>?_;simp[g.g8];refine dC (Qd x.num) rfl ?_;simp;refine⟨λf=>?_,λf=>?_⟩
 .refine dC (Qd x.den) rfl ?_;simp;refine⟨λh=>?_,λh=>?_⟩
  .refine⟨λi=>?_,λi=>⟨λd=>?_,λd=>?_⟩⟩
   .rw[Gg];refine⟨λd=>?_,λd=>?_⟩
    .simp[aT.valid,h,i,d]
    .simp[aT.valid,h,i,d]
   .simp[aT.valid,f,i,d]
   .refine fL CB pS ?_;simp;refine fL (Cx x.den [1]) rfl ?_;simp[F'];refine⟨λj=>?_,λj=>?_⟩
    .simp[aT.valid,f,h,i,d,j]
    .refine fL (T8 x.num x.den k m f h) rfl ?_;simp;refine fL CB pS ?_;simp;refine fL (Cx _ [1]) rfl ?_;simp[F'];simp[aT.valid,f,h,i,d,j]
  .simp[aT.valid,f,h]
 .simp[aT.valid,f]
def lG(d:Bool)(n:Nat):Int:=if d then -(n:Int)else n
def aT.v(x:aT):Rat:=if x.valid then mkRat (lG x.neg (val x.num)) (if x.den=[]then 1 else val x.den)else 0
def cR(q:Rat):aT:=⟨decide (q.num<0),lb q.num.natAbs,if q.den=1 then[]else lb q.den⟩
structure Fr where
 neg:Bool
 n:Nat
 d:Nat
def Fr.e(f:Fr):aT:=⟨f.neg,lb f.n,lb f.d⟩
def Fr.v(f:Fr):Rat:=mkRat (lG f.neg f.n) f.d
def iq(q:Rat):Fr:=⟨decide (q.num<0),q.num.natAbs,q.den⟩
def QK(z:Int):lG (decide (z<0)) z.natAbs=z:=by unfold lG;split<;>simp_all<;>omega
def zkp(q:Rat):(iq q).v=q:=by simp[Fr.v,iq,QK,Rat.mkRat_self]
def EA(b:Bool)(n:Nat):(lG b n).natAbs=n:=by unfold lG;split<;>simp
def Wc{x:aT}(h:x.valid=true)(hn:x.num≠[])(hd:x.den≠[]):val x.den≠1/\Nat.gcd (val x.num) (val x.den)=1:=by simp[aT.valid,hn,hd]at h;exact h.2
def LS{l:List UInt32}(h:gK l):val l=0 ↔ l=[]:=⟨λd=>by rw[<- wD h,d];simp,λd=>by rw[d];rfl⟩
def sx{x:aT}(h:x.valid=true):cR x.v=x:=by
 have n:x.v=mkRat (lG x.neg (val x.num)) (if x.den=[]then 1 else val x.den):=by simp[aT.v,h]
 have j:gK x.num/\gK x.den:=by simp[aT.valid]at h;exact⟨h.1.1,h.1.2⟩
 obtain⟨d,num,i⟩:=x;simp only at n j;by_cases s:num=[]
 .subst s;simp[aT.valid]at h;obtain⟨_,rfl,rfl⟩:=h;rw[n];simp[cR,lG]
 .have t:val num≠0:=λo=>s ((LS j.1).1 o);have y:(lG d (val num))≠0:=by unfold lG;split<;>omega
  have k:decide (lG d (val num)<0)=d:=by unfold lG;cases d<;>simp;omega
  by_cases m:i=[]
  .subst m;rw[n];simp only[cH];have e:mkRat (lG d (val num)) 1=((lG d (val num):Int):Rat):=by simp[Rat.mkRat_one]
   rw[e];simp only[cR,Rat.num_intCast,Rat.den_intCast,cH,EA,wD j.1]
   congr 1
  .have f:=Wc h s m;simp only at f;have r:val i≠0:=λo=>m ((LS j.2).1 o);rw[n,bD m];have u:mkRat (lG d (val num)) (val i)=⟨lG d (val num),val i,r,by rw[EA];exact f.2⟩:=by rw[Rat.mk_eq_mkRat]
   rw[u];simp only[cR,bD f.1,EA,wD j.1,wD j.2,k]
def nH(q:Rat):(iq q).d≠0:=q.den_nz
def vD(q:Rat):(cR q).valid=true:=by
 have f:(lb q.num.natAbs=[]) ↔ q.num=0:=by simp
 simp only[aT.valid,cR,decide_true,GN,tT];by_cases d:q.num=0
 .have:q.den=1:=by have:=q.reduced;rw[d]at this;simpa[Nat.Coprime]using this
  have j:=f.2 d;simp[d,this]
 .have j:¬ lb q.num.natAbs=[]:=λh=>d (f.1 h);by_cases i:q.den=1
  .simp[i,d]
  .have k:Nat.gcd q.num.natAbs q.den=1:=q.reduced;simp[i,tT,k,d]
def kW(q:Rat):(cR q).v=q:=by
 rw[aT.v,aX (vD q)];have d:(if (cR q).den=[]then 1 else val (cR q).den)=q.den:=by
  simp only[cR];by_cases f:q.den=1
  .simp[f]
  .have:q.den≠0:=q.den_nz;simp[f,this]
 rw[d];simp only[cR,DU,QK,Rat.mkRat_self]
def IJ{x:aT}(h:x.valid=false):x.v=0:=by simp[aT.v,h]
def yA:cR 0=⟨false,[],[]⟩:=by simp[cR]
def yes{b:Bool}{n g:Nat}(h:g ∣ n):lG b n / (g:Int)=lG b (n / g):=by
 unfold lG;cases b
 .simp
 .simp only[cH];rw[Int.neg_ediv_of_dvd (Int.natCast_dvd_natCast.2 h)];simp
def yer{b:Bool}{n:Nat}(h:n≠0):decide (lG b n<0)=b:=by unfold lG;cases b<;>simp;omega
def Nk{f:Fr}(hd:f.d≠0)(hn:f.n≠0):cR f.v=⟨f.neg,lb (f.n / Nat.gcd f.n f.d),if f.d / Nat.gcd f.n f.d=1 then[]else lb (f.d / Nat.gcd f.n f.d)⟩:=by
 have k:0<Nat.gcd f.n f.d:=Nu _ (by omega);have h:f.v.num=lG f.neg (f.n / Nat.gcd f.n f.d):=by rw[Fr.v,Rat.num_mkRat,bD hd,EA,Nat.gcd_comm,yes (Nat.gcd_dvd_left _ _)]
 have i:f.v.den=f.d / Nat.gcd f.n f.d:=by rw[Fr.v,Rat.den_mkRat,bD hd,EA,Nat.gcd_comm]
 have j:f.n / Nat.gcd f.n f.d≠0:=by have:=Nat.div_pos (Nat.gcd_le_left f.d (by omega:0<f.n)) k;omega
 simp only[cR,h,i,EA,yer j]
def Mm{f:Fr}(hn:f.n=0):f.v=0:=by simp[Fr.v,hn,lG]
def TL:(iq 0).e=⟨false,[],[1]⟩:=by simp[iq,Fr.e,CC]
def L4{x:aT}(h:x.valid=true):(iq x.v).e=⟨x.neg,x.num,if x.den=[]then[1]else x.den⟩:=by have e:=sx h;generalize x.v=q at e;subst e;have:q.den≠0:=q.den_nz;by_cases d:q.den=1<;>simp[iq,Fr.e,cR,d,CC,this]
def Cw(x:aT)(f:x.sm 4194304):zS 268 [enc x] (enc (iq x.v).e):=by
 refine Sp.vz c.fc λ_=>?_;simp[g.fc];refine dC (Mp x f) rfl ?_;simp;rw[Gg];refine⟨λh=>?_,λh=>?_⟩
 .simp;rw[L4 h];refine⟨λd=>?_,λd=>?_⟩
  .refine fL CB pS ?_;simp[d]
  .simp[d]
 .simp;refine dC CB pS ?_;simp[IJ h,TL]
def HE(f:Fr)(hd:f.d≠0)(s:f.e.sm 4194304):zS 270 [enc f.e] (enc (cR f.v)):=by
 obtain⟨m,o⟩:=s;simp only[Fr.e]at m o;refine Sp.vz c.fe λ_=>?_;simp[g.fe,Fr.e];refine⟨λh=>?_,λh=>?_⟩
 .simp[Mm h,yA]
 .have t:=Nu f.d (C9 h);refine fL (Rs _ (by omega)) rfl ?_;simp;refine fL (Rs _ (by omega)) rfl ?_;simp;refine dC (T8 _ _ m o (tT _) (tT _)) rfl ?_;simp;refine dC CB pS ?_;simp;refine dC (Cx _ [1]) rfl ?_;have j:(lb (Nat.gcd f.n f.d)).length<=4194304:=by refine dM (nR (n:=Nat.gcd f.n f.d) (k:=(lb f.n).length) ?_) m;exact oY (Nat.gcd_le_left _ (C9 h)) (uB _)
  rw[Nk hd h];simp[F'];refine⟨λr=>?_,λr=>?_⟩
  .refine dC CB pS ?_;simp;refine dC (Cx _ [1]) rfl ?_;simp[F',r];refine⟨λi=>?_,λi=>?_⟩<;>simp[i]
  .refine dC (KH (lb f.n) (lb (Nat.gcd f.n f.d)) m j (by simp;omega) (tT _)) rfl ?_;simp;refine dC (KH (lb f.d) (lb (Nat.gcd f.n f.d)) o j (by simp;omega) (tT _)) rfl ?_;simp;refine dC CB pS ?_;simp;refine dC (Cx _ [1]) rfl ?_;simp[F'];refine⟨λi=>?_,λi=>?_⟩<;>simp[i]
def jA(f g:Fr):Fr :=
 if f.neg=g.neg then⟨f.neg,f.n*g.d+g.n*f.d,f.d*g.d⟩
 else if g.n*f.d<=f.n*g.d then⟨f.neg,f.n*g.d - g.n*f.d,f.d*g.d⟩else⟨g.neg,g.n*f.d - f.n*g.d,f.d*g.d⟩
def rZ(f g:Fr):Fr:=⟨f.neg != g.neg,f.n*g.n,f.d*g.d⟩
def SQ(b:Bool)(n d:Nat):lG b n*(d:Int)=lG b (n*d):=by unfold lG;cases b<;>simp[Int.neg_mul]
def Fq{f g:Fr}(h:f.d≠0)(i:g.d≠0):(jA f g).v=f.v+g.v:=by
 unfold Fr.v;rw[Rat.mkRat_add_mkRat _ _ h i,SQ,SQ];unfold jA;generalize f.n*g.d=A;generalize g.n*f.d=B;cases j:f.neg<;>cases k:g.neg<;>simp[lG]
 .split<;>simp<;>congr 1<;>omega
 .split<;>simp<;>congr 1<;>omega
 .congr 1;omega
def M9(f g:Fr):(rZ f g).v=f.v*g.v:=by
 unfold Fr.v;rw[Rat.mkRat_mul_mkRat];simp only[rZ]
 congr 1
 unfold lG;cases f.neg<;>cases g.neg<;>simp[Int.neg_mul,Int.mul_neg]
def Fp{f g:Fr}(h:f.d≠0)(i:g.d≠0):(jA f g).d≠0:=by
 have:(jA f g).d=f.d*g.d:=by unfold jA;split<;>(try split)<;>rfl
 rw[this];exact yr2 h i
def sB{x:aT}{n:Nat}(h:x.sm n)(hn:1<=n):(iq x.v).e.sm n:=by
 by_cases d:x.valid=true
 .rw[L4 d];refine⟨h.1,?_⟩;simp only;split
  .simpa using hn
  .exact h.2
 .rw[IJ (by simpa using d),TL];exact⟨by simp,by simpa using hn⟩
def yj{m n a b:Nat}(d:(lb m).length<=a)(f:(lb n).length<=b):(lb (m*n)).length<=a+b:=by refine nR ?_;rw[rN];exact uJ (iL (uB m) (pV (by omega) d)) (iL (uB n) (pV (by omega) f))
def Ls{m n:Nat}(h:m<=n):(lb m).length<=(lb n).length:=nR (oY h (uB n))
def DZ{m n a:Nat}(d:(lb m).length<=a)(f:(lb n).length<=a):(lb (m+n)).length<=a+1:=by refine nR ?_;have:=iL (uB m) (pV (n:=4294967296) (by omega) d);have:=iL (uB n) (pV (n:=4294967296) (by omega) f);rw[kJ];omega
def Fz{f g:Fr}{n:Nat}(j:f.e.sm n)(k:g.e.sm n):(jA f g).e.sm (n+n+1):=by
 obtain⟨a,b⟩:=j;obtain⟨c,d⟩:=k;simp only[Fr.e]at a b c d;have h:=yj a d;have i:=yj c b;have m:=yj b d;unfold jA;split
 .exact⟨DZ h i,by simp only[Fr.e];omega⟩
 .split
  .exact⟨by have:=Ls (Nat.sub_le (f.n*g.d) (g.n*f.d));simp only[Fr.e];omega,by simp only[Fr.e];omega⟩
  .exact⟨by have:=Ls (Nat.sub_le (g.n*f.d) (f.n*g.d));simp only[Fr.e];omega,by simp only[Fr.e];omega⟩
def Kx{f g:Fr}{n:Nat}(d:f.e.sm n)(h:g.e.sm n):(rZ f g).e.sm (n+n):=⟨yj d.1 h.1,yj d.2 h.2⟩
def aT.sm.mono{x:aT}{m n:Nat}(h:x.sm m)(d:m<=n):x.sm n:=⟨dM h.1 d,dM h.2 d⟩
def TK(u w:Fr)(i:u.e.sm 1048576)(j:w.e.sm 1048576):zS 269 [enc u.e,enc w.e] (enc (jA u w).e):=by
 have t:=yj i.1 j.2;have x:=yj j.1 i.2;have y:=yj i.2 j.2;obtain⟨m,o⟩:=i;obtain⟨r,s⟩:=j;simp only[Fr.e]at m o r s;refine Sp.vz c.lk λ_=>?_;simp[g.lk,Fr.e];refine fL (Ef (lb u.n) (lb w.d) (by omega) (by omega)) rfl ?_;simp;refine fL (Ef (lb w.n) (lb u.d) (by omega) (by omega)) rfl ?_;simp;refine fL (Ef (lb u.d) (lb w.d) (by omega) (by omega)) rfl ?_;simp;refine⟨λh=>?_,λh=>?_⟩
 .refine fL (yfa (lb (u.n*w.d)) (lb (w.n*u.d)) (by omega) (by omega)) rfl ?_;simp[h,jA]
 .refine dC (Cx (lb (u.n*w.d)) (lb (w.n*u.d))) rfl ?_;simp[IY];refine⟨λf=>?_,λf=>?_⟩
  .refine fL (Ig (lb (u.n*w.d)) (lb (w.n*u.d)) (by omega) (by simpa using f)) rfl ?_;simp[h,f,jA]
  .refine fL (Ig (lb (w.n*u.d)) (lb (u.n*w.d)) (by omega) (by simp;omega)) rfl ?_;have k:¬ (w.n*u.d<=u.n*w.d):=Nat.not_le.2 f;simp[h,k,jA]
def FJ(x y:aT)(h:x.sm 1048576)(i:y.sm 1048576):zS 199 [enc x,enc y] (enc (cR (x.v+y.v))):=by have d:=sB h (by omega);have f:=sB i (by omega);refine Sp.vz c.ib λ_=>?_;simp[g.ib];refine fL (Cw x (h.mono (by omega))) rfl ?_;simp;refine fL (Cw y (i.mono (by omega))) rfl ?_;simp;refine fL (TK _ _ d f) rfl ?_;simp;refine fL (HE _ (Fp (nH _) (nH _)) ((Fz d f).mono (by omega))) rfl ?_;simp[Fq,nH,zkp]
def SN(x y:aT)(i:x.sm 1048576)(j:y.sm 1048576):zS 201 [enc x,enc y] (enc (cR (x.v*y.v))):=by
 have f:=sB i (by omega);have h:=sB j (by omega);have r:=Kx f h;have s:(rZ (iq x.v) (iq y.v)).d≠0:=yr2 (nH _) (nH _);obtain⟨k,m⟩:=f;obtain⟨n,o⟩:=h;simp only[Fr.e]at k m n o;refine Sp.vz c.ky λ_=>?_;simp[g.ky];refine fL (Cw x (i.mono (by omega))) rfl ?_;simp;refine fL (Cw y (j.mono (by omega))) rfl ?_;simp[Fr.e];refine fL (Ef _ _ (by omega) (by omega)) rfl ?_;simp;refine fL (Ef _ _ (by omega) (by omega)) rfl ?_;simp;refine fL (HE (rZ (iq x.v) (iq y.v)) s (r.mono (by omega))) ?_ ?_
 .simp[rZ,Fr.e,bne]
 .simp[M9,zkp]
def pF(u:Fr):Fr:=⟨!u.neg,u.n,u.d⟩
def U6(u:Fr):zS 315 [enc u.e] (enc (pF u).e):=by refine Sp.vz c.p9 λ_=>?_;simp[g.p9,pF,Fr.e]
def Na(u:Fr):(pF u).v = - u.v:=by unfold Fr.v pF;rw[Rat.neg_mkRat];congr 1;unfold lG;cases u.neg<;>simp
def yex(x y:aT)(i:x.sm 1048576)(j:y.sm 1048576):zS 274 [enc x,enc y] (enc (cR (x.v - y.v))):=by have d:=sB i (by omega);have k:=sB j (by omega);have h:(pF (iq y.v)).e.sm 1048576:=k;refine Sp.vz c.po λ_=>?_;simp[g.po];refine fL (Cw x (i.mono (by omega))) rfl ?_;simp;refine fL (Cw y (j.mono (by omega))) rfl ?_;simp;refine fL (U6 (iq y.v)) rfl ?_;simp;refine fL (TK (iq x.v) (pF (iq y.v)) d h) rfl ?_;simp;refine fL (HE (jA (iq x.v) (pF (iq y.v))) (Fp (nH _) (nH y.v)) ((Fz d h).mono (by omega))) rfl ?_;have e:=Fq (f:=iq x.v) (g:=pF (iq y.v)) (nH _) (nH y.v);simp[e,zkp,Na,TP]
def kM(q:Rat):Int:=if q.num=0 then 0 else if q.num<0 then -1 else 1
def Iq(x:aT)(f:x.sm 4194304):zS 219 [enc x] (.int .i64 (kM x.v)):=by refine Sp.vz c.ej λ_=>?_;simp[g.ej];refine dC (Cw x f) rfl ?_;simp[Fr.e,iq,kM];refine⟨λh=>by simp[h],λh=>⟨λd=>by simp[h,d],λd=>by simp[h];omega⟩⟩
def Sd{n d:Nat}:(lb (n / d)).length<=(lb n).length:=Ls (Cc _ _)
def IF{f:Fr}{n:Nat}(hd:f.d≠0)(h:f.e.sm n):(cR f.v).sm n:=by
 by_cases i:f.n=0
 .rw[Mm i,yA];exact⟨by simp,by simp⟩
 .rw[Nk hd i];refine⟨dM Sd h.1,?_⟩;simp only;split
  .simp
  .exact dM Sd h.2
def Rp(x y:aT)(d:x.sm 1048576)(h:y.sm 1048576):zS 220 [enc x,enc y] (.int .i64 (kM (x.v - y.v))):=by
 have i:=sB d (by omega);have j:=sB h (by omega);have k:(pF (iq y.v)).e.sm 1048576:=j;have m:(cR (x.v - y.v)).sm 4194304:=by have e:=Fq (f:=iq x.v) (g:=pF (iq y.v)) (nH _) (nH y.v);rw[zkp,Na,zkp,<- Rat.sub_eq_add_neg]at e;rw[<- e];exact IF (Fp (nH _) (nH y.v)) ((Fz i k).mono (by omega))
 refine Sp.vz c.kz λ_=>?_;simp[g.kz];refine dC (yex x y d h) rfl ?_;simp;refine dC (Iq (cR (x.v - y.v)) m) rfl ?_;simp[kW]
def Pk(v:Int)(o : -9223372036854775808<=v)(r:v<=9223372036854775807):zS 310 [.int .i64 v] (.bM [.bool (decide (v<0)),.sl (ens (lb v.natAbs))]):=by
 refine Sp.vz c.p0 λ_=>?_;simp[g.p0];obtain⟨d,k⟩:∃ z:UInt32,z.toNat=v.natAbs % 4294967296:=⟨_,oH _⟩;obtain⟨f,m⟩:∃ z:UInt32,z.toNat=v.natAbs / 4294967296 % 4294967296:=⟨_,oH _⟩;have n:val [d,f]=v.natAbs:=by simp only[sQ,S1,k,m];omega
 refine⟨λh=>?_,λh=>?_⟩
 .have i:(-(v % 18446744073709551616)) % 4294967296=(d.toNat:Int):=by omega
  have j:(-(v % 18446744073709551616)) % 18446744073709551616 / 4294967296 % 4294967296=(f.toNat:Int):=by omega
  simp only[i,j];refine dC (yl [d,f]) (kX (uF rfl (by simp) (by simp)) pS) ?_;rw[n];simp[h]
 .have i:v % 4294967296=(d.toNat:Int):=by omega
  have j:v % 18446744073709551616 / 4294967296 % 4294967296=(f.toNat:Int):=by omega
  simp only[i,j];refine dC (yl [d,f]) (kX (uF rfl (by simp) (by simp)) pS) ?_;rw[n];simp
def Ps(a b:Int):(⟨decide (a<0) != decide (b<0),a.natAbs,b.natAbs⟩:Fr).v=Rat.divInt a b:=by
 simp only[Fr.v];obtain h|h:=(by omega:b<0\/0<=b)
 .have e:Rat.divInt a b=mkRat (-a) b.natAbs:=by rw[<- Rat.divInt_ofNat,<- Rat.neg_divInt_neg];congr 1;omega
  rw[e];congr 1;unfold lG;by_cases d:a<0<;>simp[d,h]<;>omega
 .have e:Rat.divInt a b=mkRat a b.natAbs:=by rw[<- Rat.divInt_ofNat];congr 1;omega
  have f:¬ b<0:=by omega
  rw[e];congr 1;unfold lG;by_cases d:a<0<;>simp[d,f]<;>omega
def yac(a b:Int)(d : -9223372036854775808<=a/\a<=9223372036854775807)(f : -9223372036854775808<=b/\b<=9223372036854775807) :
  zS 267 [.int .i64 a,.int .i64 b] (.bM [enc (if b=0 then cR 0 else cR (Rat.divInt a b)),.int .i64 (if b=0 then 11 else 0)]):=by
 have i:=nR (n:=a.natAbs) (k:=2) (by omega);have j:=nR (n:=b.natAbs) (k:=2) (by omega);refine Sp.vz c.lj λ_=>?_;simp[g.lj];refine⟨λh=>by simp[h,yA],λh=>?_⟩;refine dC (Pk a d.1 d.2) rfl ?_;simp;refine dC (Pk b f.1 f.2) rfl ?_;simp;refine dC (HE ⟨decide (a<0) != decide (b<0),a.natAbs,b.natAbs⟩ (by simpa using h) ⟨by simp only[Fr.e];omega,by simp only[Fr.e];omega⟩) ?_ ?_
 .simp[Fr.e,bne]
 .simp[Ps,h]
@[simp] theorem ym6(x:UInt32):IntKind.i64.wrap (x.toNat:Int)=x.toNat:=by have:=x.toNat_lt;exact cL (by omega) (by omega)
def FO(a:List UInt32):zS 177 [.sl (ens a)] (.sl (ens (lb (val a)))):=by
 refine Sp.vz c.de λt=>?_;have r:=FG t.1;simp[g.de];refine b6 (S:=λl:List UInt32=>aB [(0,.p (.sl (ens l)))] []) (I:=λl=>val l=val a/\l.length<=9223372036854775807) (m:=λl=>l.length) a (aA.of (keep:=[0]) (ids:=[]) rfl) ⟨rfl,r⟩ ?_;rintro l ⟨j,z⟩ R s C u;have e:IntKind.i64.wrap (↑l.length - 1) = ↑l.length - 1:=cT;have k:((l.length:Int) - 1).toNat=l.length - 1:=by omega
 simp[g.wv,aB,e,k];have f:gK l->R (Exit.exit 0) ⟨[(0,.p (.sl (ens l)))],[(aO,[none])]⟩:=λo=>by refine u _ _ ?_;simp;rw[<- j,wD o]
 refine⟨λh=>bK (by omega) ⟨by omega,λi=>⟨by omega,s (l.take (l.length - 1)) _ (aA.of (keep:=[0]) (ids:=[]) rfl) ?_ ?_⟩,λi=>f ?_⟩,λh=>f ?_⟩
 .refine⟨?_,by simp;omega⟩;have n:l=l.take (l.length - 1)++[0]:=by
   conv=>lhs;rw[<- List.take_append_getLast l (by intro d;simp[d]at h)]
   rw[List.getLast_eq_getElem,ye (x:=l[l.length - 1]) (y:=0) (by simpa using i)]
  rw[n,AZ]at j;simpa using j
 .simp;omega
 .intro d;rw[List.getLast?_eq_getElem?,dO (by omega)]at d;simp at d;rw[d]at i;exact i rfl
 .subst h;simp[gK]
def HJ(a:List UInt32)(i:Int)(h:0<=i):zS 259 [.sl (ens a),.int .i64 i] (.int .u64 (a.getD i.toNat 0).toNat):=by
 refine Sp.vz c.ld λ_=>?_;simp[g.ld];refine⟨λd=>?_,λd=>bK (by omega) ⟨h,?_⟩⟩
 .have:a.length<=i.toNat:=by omega
  simp[this]
 .have:i.toNat<a.length:=by omega
  simp[*]
def Bg(v:Int):Int:=if v<0 then -1 else if 0<v then 1 else 0
def SS(v:Int):zS 260 [.int .i64 v] (.int .i64 (Bg v)):=by refine Sp.vz c.lg λ_=>?_;simp[g.lg,Bg];refine⟨λh=>by omega,λh=>⟨λd=>by split<;>omega,λd=>by split<;>omega⟩⟩
def Q1(v:Nat)(h:v<18446744073709551616):zS 137 [.int .u64 v] (.sl (ens (lb v))):=by
 refine Sp.vz c.oi λ_=>?_;simp[g.oi];obtain⟨i,d⟩:∃ z:UInt32,z.toNat=v % 4294967296:=⟨_,oH _⟩;obtain⟨j,f⟩:∃ z:UInt32,z.toNat=v / 4294967296 % 4294967296:=⟨_,oH _⟩;have n:val [i,j]=v:=by simp only[sQ,S1,d,f];omega
 have k:(v:Int) % 4294967296=(i.toNat:Int):=by omega
 have m:(v:Int) / 4294967296 % 4294967296=(j.toNat:Int):=by omega
 simp only[k,m];refine dC (FO [i,j]) (kX (uF rfl (by simp) (by simp)) pS) ?_;rw[n];simp
def D4(a:List UInt32):zS 176 [.sl (ens a)] (.bool (decide (a=[1]))):=by
 refine Sp.vz c.km λ_=>?_;simp[g.km];refine⟨λh=>?_,λh=>?_⟩
 .obtain⟨d,rfl⟩:∃ d,a=[d]:=Jx.1 (by omega);refine bK (by simp) ?_;simp;by_cases f:d=1
  .subst f;simp
  .have:d.toNat≠1:=λh=>f (ye (by simpa using h));simp[f];omega
 .intro i;subst i;simp at h
def PB{a b:List UInt32}(m:gK a)(i:gK b)(h:a.length<b.length):val a<val b:=by
 have k:=oW a;have d:val b≠0:=λj=>by rw[(LS i).1 j]at h;simp at h
 have f:=Mh d;rw[wD i]at f;exact iL k (dM (pV (by omega) (by omega)) f)
def Ms(a b:List UInt32)(L:a.length<=1073741824)(C:b.length<=1073741824)(r:gK a)(s:gK b):zS 189 [.sl (ens a),.sl (ens b)] (.int .i64 (kS (val a) (val b))):=by
 refine Sp.vz c.ku λ_=>?_;have t:IntKind.i64.wrap ((a.length:Int) - b.length)=(a.length:Int) - b.length:=cT;have u:IntKind.i64.wrap ((a.length:Int) - 1)=(a.length:Int) - 1:=cT;simp[g.ku,t,u];refine⟨λd=>?_,λd=>?_⟩
 .have d:a.length=b.length:=by omega
  refine b6 (S:=λk:Nat=>aB [(0,.p (.sl (ens a))),(1,.p (.sl (ens b))),(5,.p (.int .i64 ((k:Int) - 1)))] []) (I:=λk=>k<=a.length/\val a / 4294967296^k=val b / 4294967296^k) (m:=λk=>k) a.length (aA.of (keep:=[0,1,5]) (ids:=[]) rfl) ⟨dE _,by rw[I1 _ (by omega),I1 _ (by omega)]⟩ ?_;rintro k ⟨J,o⟩ R D F H;have x:((k:Int) - 1).toNat=k - 1:=by omega
  have f:IntKind.i64.wrap ((k:Int) - 1 - 1)=((k - 1:Nat):Int) - 1\/k=0:=by
   obtain h|h:=Ci k
   .exact .inr h
   .left;rw[cL (by omega) (by omega)];omega
  simp[g.w8,aB,x];refine⟨λz=>bK (by omega) ⟨by omega,bK (by omega) ?_⟩,λz=>?_⟩
  .have f:=f.resolve_right (by omega);have j:=IZ a (k - 1);have n:=IZ b (k - 1);rw[show k - 1+1=k by omega]at j n;have M:=jD a[k - 1];have O:=jD b[k - 1];simp[show k - 1<a.length by omega,show k - 1<b.length by omega]at j n;refine⟨by omega,λy=>?_,λE=>bK (by omega) ⟨by omega,bK (by omega) ⟨by omega,?_⟩⟩⟩
   .rw[f];exact D (k - 1) _ (aA.of (keep:=[0,1,5]) (ids:=[]) rfl) ⟨by omega,by omega⟩ (by omega)
   .have G:IntKind.i64.wrap ((a[k - 1].toNat:Int) - b[k - 1].toNat)=(a[k - 1].toNat:Int) - b[k - 1].toNat:=cT;rw[G];refine fL (SS _) rfl ?_;simp;refine F _ ?_;simp[Bg];have i:val a / 4294967296^(k - 1)<val b / 4294967296^(k - 1)\/val b / 4294967296^(k - 1)<val a / 4294967296^(k - 1):=by omega
    obtain h|h:=i
    .have:=Ix h;simp only[kS];(repeat' split)<;>omega
    .have:=Ix h;simp only[kS];(repeat' split)<;>omega
  .refine H _ _ ?_;have:k=0:=by omega
   subst this;simp at o;simp[kS,o]
 .refine dC (SS _) rfl ?_;simp[Bg];obtain h|h:=pW a.length b.length
  .have:=PB r s h;rw[aX (by omega),kS,aX this]
  .have:=PB s r (by omega);rw[bD (by omega),aX (by omega),kS,bD (by omega),bD (by omega)]
def z26{v d vb s M:Nat}(f:v+4294967296^(M+1)*s=d+vb)(i:d<4294967296^M)(j:vb<4294967296^M):s=0:=by
 rw[kJ]at f;generalize 4294967296^M=p at *
 obtain h|h:=Ci s
 .exact h
 .have:=JG (p*4294967296) h;omega
def WX(l:List UInt32)(i:Nat):val l / 2^i % 2=(l.getD (i / 32) 0).toNat / 2^(i % 32) % 2:=by
 have f:val l / 2^i=val l / 4294967296^(i / 32) / 2^(i % 32):=by rw[Gv i,NH]
 rw[f,CQ];generalize val l / 4294967296^(i / 32)=x;have k:i % 32<32:=Ad _ (by omega);generalize i % 32=s at *
 have h:2^s*2^(32 - s)=4294967296:=by rw[<- Nat.pow_add,show s+(32 - s)=32 by omega]
 have j:2^(32 - s)=2*2^(31 - s):=by rw[show 32 - s=31 - s+1 by omega,kJ];omega
 have e:=GR x 4294967296;have d:x=x % 4294967296+2^s*(2*(2^(31 - s)*(x / 4294967296))):=by rw[<- Nat.mul_assoc 2,<- j,<- Nat.mul_assoc,h];omega
 conv=>lhs;rw[d,JA _ _ (qZ (by omega)),Nv]
def z64(x i:Nat):x / 2^i=2*(x / 2^(i+1))+x / 2^i % 2:=by rw[kJ,<- Nat.div_div_eq_div_mul];omega
def ZB{l:List UInt32}{i Q:Nat}(h:val l=2^(i+1)*Q)(o:i / 32<l.length) :
  (l.getD (i / 32) 0).toNat ||| 2^(i % 32)<4294967296/\∀ z:UInt32,z.toNat=(l.getD (i / 32) 0).toNat ||| 2^(i % 32)->val (l.set (i / 32) z)=2^i*(2*Q+1):=by
 have s:i % 32<32:=Ad _ (by omega);have m:(l.getD (i / 32) 0).toNat=2^(i % 32+1)*(Q % 2^(31 - i % 32)):=by
  rw[CQ,h,kJ,Gv i];have e:4294967296^(i / 32)*2^(i % 32)*2*Q=4294967296^(i / 32)*(2^(i % 32)*2*Q):=by simp only[pX]
  rw[e,Nat.mul_div_cancel_left _ (qZ (by omega)),<- Nat.pow_succ];have f:(4294967296:Nat)=2^(i % 32+1)*2^(31 - i % 32):=by rw[<- Nat.pow_add,show i % 32+1+(31 - i % 32)=32 by omega]
  rw[f,Nat.mul_mod_mul_left]
 have r:(l.getD (i / 32) 0).toNat ||| 2^(i % 32)=(l.getD (i / 32) 0).toNat+2^(i % 32):=by rw[m,oI,Nf (Ju (by omega) (by omega))]
 have d:=Nx (n:=32) (jD (l.getD (i / 32) 0)) (Ju (a:=2) (by omega) s);refine⟨d,λz t=>?_⟩;have v:=HY l (i / 32) z o;rw[t,r,sE]at v;have j:4294967296^(i / 32)*2^(i % 32)=2^i:=(Gv i).symm;have k:2^i*(2*Q+1)=2^(i+1)*Q+2^i:=by rw[sE,kJ,pX];omega
 rw[k,<- h,<- j];omega
def XY{v p sum A C x y d r:Nat}(i:v+p*sum=A+C)(f:x+y+sum=4294967296*d+r):v+p*r+p*4294967296*d=A+p*x+(C+p*y):=by
 have h:p*(x+y+sum)=p*(4294967296*d+r):=by rw[f]
 simp only[sE,pX]at *
 omega
def LA(a b:List UInt32)(X:a.length<=1073741824)(L:b.length<=1073741824):zS 188 [.sl (ens a),.sl (ens b)] (.sl (ens (lb (val a+val b)))):=by
 refine Sp.vz c.kr λ_=>?_;simp[g.kr];obtain⟨M,W⟩:∃ M,M=max a.length b.length:=⟨_,rfl⟩
 refine b6 (S:=λx:Nat × Nat × List UInt32=>aB [(0,.p (.sl (ens a))),(1,.p (.sl (ens b))),(5,.own 1 0 0 x.1),(6,.p (.int .u64 x.2.1)),(7,.p (.int .i64 x.1))] [(1,⟨1,aK x.2.2⟩)])
  (I:=λx=>x.2.2.length=x.1/\x.1<=M+1/\x.2.1<=1/\val x.2.2+4294967296^x.1*x.2.1=val (a.take x.1)+val (b.take x.1)) (m:=λx=>M+1 - x.1) (0,0,[]) (aA.nl 5 1 1 rfl (aA.to [0,1,5,6,7] [((1,0),1)] (by simp))) ⟨rfl,by simp,by simp,by simp⟩ ?_
 rintro⟨i,sum,f⟩ ⟨j,H,J,d⟩ R O Y Q;simp at j H J d;simp[g.w7];refine⟨λh=>?_,λh=>?_⟩
 .refine dC (HJ _ _ (by omega)) rfl ?_;simp;refine dC (HJ _ _ (by omega)) rfl ?_;simp;have s:i<=M:=by split at h<;>omega
  have D:=aZ i;have o:=vC a i;have r:=vC b i;have u:=jD (a.getD i 0);have C:=jD (b.getD i 0);simp only[eV]at o r u C;generalize (a[i]?.getD 0).toNat=x at o u ⊢;generalize (b[i]?.getD 0).toNat=y at r C ⊢;obtain⟨z,t⟩:∃ z:UInt32,z.toNat=(x+y+sum) % 4294967296:=⟨_,oH _⟩;have E:((x:Int)+y+sum) % 18446744073709551616 / 4294967296=(((x+y+sum) / 4294967296:Nat):Int):=by omega
  have F:((x:Int)+y+sum) % 4294967296=(z.toNat:Int):=by rw[t];omega
  rw[D,E,F];refine⟨⟨by omega,by omega⟩,O (i+1,(x+y+sum) / 4294967296,f++[z]) _ (aA.to [0,1,5,6,7] [((31,0),1)] (by simp)) ⟨by simp[j],by simp only;omega,by simp only;omega,?_⟩ (by simp only;omega)⟩;simp only;rw[AZ,t,j,o,r,kJ];have G:x+y+sum=4294967296*((x+y+sum) / 4294967296)+(x+y+sum) % 4294967296:=by omega
  exact XY d G
 .refine Q _ _ ?_;simp;have s:i=M+1:=by split at h<;>omega
  subst s;refine dC (FO f) (kX (uF rfl rfl j.symm) pS) ?_;rw[Gr _ (by omega),Gr _ (by omega)]at d;have U:=iL (oW a) (pV (n:=4294967296) (by omega) (show a.length<=M by omega));have V:=iL (oW b) (pV (n:=4294967296) (by omega) (show b.length<=M by omega));have k:sum=0:=z26 d U V;subst k;simp;rw[Nat.mul_zero,uO]at d;rw[d]
def Yx{v p d A C x y l r:Nat}(i:v+C=A+p*d)(f:x+4294967296*l=y+d+r):v+p*r+(C+p*y)=A+p*x+p*4294967296*l:=by
 have h:p*(x+4294967296*l)=p*(y+d+r):=by rw[f]
 simp only[sE,pX]at *
 omega
theorem We{l:List UInt32}{k:Nat}(h:val l<4294967296^k):l.getD k 0=0:=by apply ye;rw[CQ,Ac h];rfl
def IA(a b:List UInt32)(X:a.length<=1073741824)(u:val b<=val a):zS 190 [.sl (ens a),.sl (ens b)] (.sl (ens (lb (val a - val b)))):=by
 refine Sp.vz c.kx λ_=>?_;simp[g.kx]
 refine b6 (S:=λx:Nat × Nat × List UInt32=>aB [(0,.p (.sl (ens a))),(1,.p (.sl (ens b))),(5,.own 1 0 0 x.1),(6,.p (.int .u64 x.2.1)),(7,.p (.int .i64 x.1))] [(1,⟨1,aK x.2.2⟩)])
  (I:=λx=>x.2.2.length=x.1/\x.1<=a.length/\x.2.1<=1/\val x.2.2+val (b.take x.1)=val (a.take x.1)+4294967296^x.1*x.2.1) (m:=λx=>a.length - x.1) (0,0,[]) (aA.nl 5 1 1 rfl (aA.to [0,1,5,6,7] [((1,0),1)] (by simp))) ⟨rfl,by simp,by simp,by simp⟩ ?_
 rintro⟨i,d,f⟩ ⟨n,M,O,s⟩ R V Y W;simp only at n M O s;simp[g.w9];refine⟨λh=>?_,λh=>?_⟩
 .refine dC (HJ _ _ (by omega)) rfl ?_;simp;refine dC (HJ _ _ (by omega)) rfl ?_;simp;have G:=aZ i;have C:=vC a i;have D:=vC b i;have t:=jD (a.getD i 0);have F:=jD (b.getD i 0);simp only[eV]at C D t F;generalize (a[i]?.getD 0).toNat=x at C t ⊢;generalize (b[i]?.getD 0).toNat=y at D F ⊢;obtain⟨z,E⟩:∃ z:UInt32,z.toNat=(x+4294967296 - y - d) % 4294967296:=⟨_,oH _⟩;obtain⟨o,j⟩:∃ o:Nat,o=if x<y+d then 1 else 0:=⟨_,rfl⟩
  have H:(1 - ((x:Int)+4294967296 - y - d) % 18446744073709551616 / 4294967296) % 18446744073709551616=(o:Int):=by subst j;split<;>omega
  have J:((x:Int)+4294967296 - y - d) % 4294967296=(z.toNat:Int):=by rw[E];omega
  rw[G,H,J];refine⟨⟨by omega,by omega⟩,V (i+1,o,f++[z]) _ (aA.to [0,1,5,6,7] [((29,0),1)] (by simp)) ⟨by simp[n],by simp only;omega,by simp only;subst j;split<;>omega,?_⟩ (by simp only;omega)⟩;simp only;rw[AZ,E,n,C,D,kJ];have L:x+4294967296*o=y+d+(x+4294967296 - y - d) % 4294967296:=by subst j;split<;>omega
  generalize 4294967296^i=p at *
  generalize (x+4294967296 - y - d) % 4294967296=r at *
  exact Yx s L
 .refine W _ _ ?_;simp;have U:i=a.length:=by omega
  subst U;refine dC (FO f) (kX (uF rfl rfl n.symm) pS) ?_;rw[kK,RR (oY u (oW a))]at s;have t:=oW f;rw[n]at t;have k:d=0:=by
   obtain Q|Q:=pW 0 d
   .have:d=1:=by omega
    subst this;omega
   .omega
  subst k;rw[Nat.mul_zero,uO]at s;simp;rw[show val f=val a - val b by omega]
def Gf(a b:List UInt32)(hl:a.length<=536870912)(ad:b.length<=536870912):zS 133 [.sl (ens a),.sl (ens b)] (.sl (ens (lb (val a*val b)))):=by
 refine Sp.vz c.jz λ_=>?_;have U:IntKind.i64.wrap ((a.length:Int)+b.length)=((a.length+b.length:Nat):Int):=cT;simp[g.jz,U];have s:((a.length:Int)+b.length).toNat=a.length+b.length:=by omega
 simp only[s]
 refine⟨by omega,b6 (S:=λx:Nat × List UInt32=>aB [(0,.p (.sl (ens a))),(1,.p (.sl (ens b))),(5,.own 1 0 0 (a.length+b.length)),(6,.p (.int .i64 x.1))] [(1,⟨1,aK x.2⟩)])
  (I:=λx=>x.2.length=a.length+b.length/\x.1<=a.length/\val x.2=val (a.take x.1)*val b) (m:=λx=>a.length - x.1) (0,List.replicate (a.length+b.length) 0)
  (aA.to [0,1,5,6] [((15,0),1)] (by simp)) ⟨by simp,by simp,by simp[Jb]⟩ ?_⟩
 rintro⟨i,n⟩ ⟨O,h2,r⟩ R hn hr hx;simp only at O h2 r;simp[g.wj];refine⟨λh=>?_,λh=>?_⟩
 .refine b6 (S:=λx:Nat × Nat × List UInt32=>aB [(0,.p (.sl (ens a))),(1,.p (.sl (ens b))),(5,.own 1 0 0 (a.length+b.length)),(6,.p (.int .i64 i)),(7,.p (.int .u64 x.2.1)),(8,.p (.int .i64 x.1))] [(1,⟨1,aK x.2.2⟩)])
   (I:=λx=>x.2.2.length=a.length+b.length/\x.1<=b.length/\x.2.1<4294967296/\x.2.2.getD (i+b.length) 0=0/\val x.2.2+4294967296^i*4294967296^x.1*x.2.1=val (a.take i)*val b+4294967296^i*(a.getD i 0).toNat*val (b.take x.1)) (m:=λx=>b.length - x.1) (0,0,n)
   (aA.to [0,1,5,6,7,8] [((1,0),1)] (by simp)) ⟨by simp[O],by simp,by simp,?_,by simp[r]⟩ ?_
  .simp only;refine We ?_;rw[r,rN];have q1:val (a.take i)<4294967296^i:=iL (oW _) (pV (by omega) (by simp;omega));exact uJ q1 (oW b)
  rintro⟨j,sum,d⟩ ⟨H,k2,k3,J,f⟩ R2 E af G;simp only at H k2 k3 f J;simp[g.wi];have u:=aZ i;refine⟨λg=>?_,λg=>?_⟩
  .have C:IntKind.i64.wrap ((i:Int)+j)=((i+j:Nat):Int):=cT;have V:=aZ j;rw[C,V,Int.toNat_natCast];refine bK (by omega) (bK (by omega) ⟨⟨by omega,by omega,by omega⟩,bK (by omega) ⟨⟨by omega,by omega,by omega⟩,bK (by omega) ?_⟩⟩);have L:=vC b j;have u0:=jD a[i];have u1:=jD b[j];have u2:=jD d[i+j];have Q:∀ z,val (d.set (i+j) z)+4294967296^(i+j)*d[i+j].toNat=val d+4294967296^(i+j)*z.toNat:=λz=>by have:=HY d (i+j) z (by omega);simpa only[List.getD_eq_getElem?_getD,List.getElem?_eq_getElem (show i+j<d.length by omega),Option.getD_some]using this
   have M:(a.getD i 0)=a[i]:=by simp[dO h]
   have Y:(b.getD j 0)=b[j]:=by simp[dO g]
   rw[Y]at L;rw[M]at f;generalize F:a[i].toNat=x at u0 f ⊢;generalize b[j].toNat=y at L u1 ⊢;generalize d[i+j].toNat=o at u2 Q ⊢;have ag:x*y<=4294967295*4294967295:=mT (by omega) (by omega);obtain⟨z,k⟩:∃ z:UInt32,z.toNat=(sum+(o+x*y)) % 4294967296:=⟨_,oH _⟩;have W:((x:Int)*y+o+sum) % 18446744073709551616 / 4294967296=(((sum+(o+x*y)) / 4294967296:Nat):Int):=by
    have:((x:Int)*y)=((x*y:Nat):Int):=by simp
    rw[this];omega
   have t:((x:Int)*y+o+sum) % 4294967296=(z.toNat:Int):=by
    have:((x:Int)*y)=((x*y:Nat):Int):=by simp
    rw[this,k];omega
   rw[W,t];refine E (j+1,(sum+(o+x*y)) / 4294967296,d.set (i+j) z) _ (aA.to [0,1,5,6,7,8] [((1,0),1)] (by simp)) ⟨by simp[H],by simp only;omega,by simp only;omega,?_,?_⟩ (by simp only;omega)
   .simp only;rw[eV,List.getElem?_set_ne (by omega),<- List.getD_eq_getElem?_getD];exact J
   .simp only;have v:=Q z;rw[k,rN]at v;rw[L,kJ,M,F];have X:=GR (sum+(o+x*y)) 4294967296;exact QR v f X
  .refine G _ _ ?_;have hj:j=b.length:=by omega
   subst hj;have C:IntKind.i64.wrap ((i:Int)+b.length)=((i+b.length:Nat):Int):=cT;simp[C,u];have D:((i:Int)+b.length).toNat=i+b.length:=by omega
   rw[D];obtain⟨z,k⟩:∃ z:UInt32,z.toNat=sum:=⟨UInt32.ofNat sum,by rw[oH];omega⟩;have t:(sum:Int) % 4294967296=(z.toNat:Int):=by rw[k];omega
   rw[t];refine⟨⟨by omega,by omega,by omega⟩,bK (by omega) ?_⟩;refine hn (i+1,d.set (i+b.length) z) _ (aA.to [0,1,5,6] [((1,0),1)] (by simp)) ⟨by simp[H],by simp only;omega,?_⟩ (by simp only;omega);simp only;have v:=HY d (i+b.length) z (by omega);rw[J,k,rN]at v;rw[kK]at f;rw[vC,sT];simp only[UInt32.toNat_zero,Nat.mul_zero,uO]at v;rw[v,f]
 .refine hx _ _ ?_;simp;refine dC (FO n) (kX (uF rfl rfl (by omega)) pS) ?_;simp;have:i=a.length:=by omega
  subst this;rw[r,kK]
def LV(a b:List UInt32)(hl:a.length<=4194304)(al:b.length<=4194304)(hb:val b≠0)(ad:gK b):zS 175 [.sl (ens a),.sl (ens b)] (.bM [.sl (ens (lb (val a / val b))),.sl (ens (lb (val a % val b)))]):=by
 refine Sp.vz c.kj λ_=>?_;have e0:IntKind.i64.wrap (32*(a.length:Int))=32*(a.length:Int):=cT;have e1:IntKind.i64.wrap (32*(a.length:Int) - 1)=32*(a.length:Int) - 1:=cT;simp[g.kj,e0,e1]
 refine⟨by omega,b6 (S:=λx:Nat × Nat × List UInt32=>aB [(0,.p (.sl (ens a))),(1,.p (.sl (ens b))),(6,.own 1 0 0 a.length),(7,.p (.sl (ens (lb x.2.1)))),(8,.p (.int .i64 ((x.1:Int) - 1)))] [(1,⟨1,aK x.2.2⟩)])
  (I:=λx=>x.2.2.length=a.length/\x.1<=32*a.length/\x.2.1<val b/\∃ Q,val x.2.2=2^x.1*Q/\val a / 2^x.1=Q*val b+x.2.1) (m:=λx=>x.1) (32*a.length,0,List.replicate a.length 0)
  ((aA.freeze (t:=7) rfl).trans (aA.to [0,1,6,7,8] [((11,0),1)] (by simp))) ⟨by simp,by simp,by simp;omega,0,by simp[Jb],?_⟩ ?_⟩
 .simp only[JK,uO];rw[TQ];exact Ac (oW a)
 rintro⟨k,R,q⟩ ⟨U,h2,h3,Q,O,D⟩ X hn hr hx;simp only at U h2 h3 O D;have o:=dM (nR (Nat.lt_trans h3 (oW b))) al;obtain _|i:=k
 .simp[g.uc];refine hx _ _ ?_;simp;refine dC (FO q) (kX (uF rfl (by simp) (by omega)) pS) ?_;simp;simp only[Nat.pow_zero,Nat.one_mul,Nat.div_one]at O D;have q1:val a / val b=val q:=by rw[D,O,oI,Nat.mul_add_div (by omega),Ac h3];omega
  have q2:val a % val b=R:=by rw[D,oI,Nat.mul_add_mod,uM h3]
  rw[q1,q2];exact⟨rfl,rfl⟩
 .simp[g.uc];refine dC (LA (lb R) (lb R) (by omega) (by omega)) rfl ?_;simp;have hw:IntKind.i64.wrap ((i:Int) / 32)=((i / 32:Nat):Int):=by rw[cL (by omega) (by omega)];omega
  have hm:(i:Int).tmod 32=((i % 32:Nat):Int):=Jd i 32;have J:((i % 32:Nat):Int) % 18446744073709551616=((i % 32:Nat):Int):=by omega
  have L:((i % 32:Nat):Int).toNat.min 32=i % 32:=uN (by rw[kZ];omega);rw[hw,hm,J,L,kZ];have F:=WX a i;have u:=z64 (val a) i;have r:=ZB O (by omega);have af:i / 32<a.length:=by omega
  have ga:(a.getD (i / 32) 0)=a[i / 32]:=by simp[dO af]
  rw[ga]at F;refine bK af ⟨by omega,by omega,?_⟩;have ag:=jD a[i / 32];generalize a[i / 32]=x at F ag ⊢;have he:((x.toNat:Int) / 2^(i % 32))=((x.toNat / 2^(i % 32):Nat):Int):=by simp
  have Y:=yc1 (x:=x.toNat / 2^(i % 32)) (y:=1) (oY (Cc _ _) ag) (by omega);rw[Nat.and_one_is_mod,show((1:Nat):Int)=1 from rfl]at Y;rw[he,Y,<- F];have C:IntKind.i64.wrap ((i:Int) - 1)=(i:Int) - 1:=cT;have ao:(val a / 2^i % 2=0)\/(val a / 2^i % 2=1):=by omega
  refine⟨λaq=>?_,λap=>?_⟩
  .refine dC (LA (lb (R+R)) [1] (by have:=DZ (m:=R) (n:=R) o o;omega) (by simp)) (kX rfl (kX (uF rfl (by simp) (by simp)) pS)) ?_;obtain⟨f,d⟩:∃ f,R+R+1=f:=⟨_,rfl⟩;have V:val a / 2^i % 2=1:=by omega
   simp[d];have W:(lb f).length<=4194305:=by
    have:=DZ o o;have:=DZ (m:=R+R) (n:=1) (a:=4194305) (by omega) (by rw[CC];simp)
    first|(rw[<- d];have h:=nR (n:=R+R+1) (k:=b.length+1) (by have:=oW b;rw[kJ];omega);omega)|(rw[<- d];omega)
   refine dC (Ms (lb f) b (by omega) (by omega) (tT _) ad) rfl ?_;simp[IY];refine⟨λG=>?_,λH=>?_⟩
   .refine dC (IA (lb f) b (by omega) (by simpa using G)) rfl ?_;simp;rw[hw,hm,J,L,Int.toNat_natCast,C];have j:i / 32<q.length:=by omega
    have gq:(q.getD (i / 32) 0)=q[i / 32]:=by simp[dO j]
    rw[gq]at r;obtain⟨z,hz⟩:∃ z:UInt32,z.toNat=q[i / 32].toNat ||| 2^(i % 32):=⟨UInt32.ofNat _,by rw[oH,uM r.1]⟩;have E:=Gb (s:=i % 32) (Ad _ (by omega));have M:((2:Int)^(i % 32) % 4294967296)=((2^(i % 32):Nat):Int):=by
     have:((2:Int)^(i % 32))=((2^(i % 32):Nat):Int):=by simp
     rw[this];generalize 2^(i % 32)=p at E ⊢;omega
    have ho:=Sx (x:=q[i / 32].toNat) (y:=2^(i % 32)) (jD _) (by omega);rw[M];refine⟨⟨by omega,by omega,by omega⟩,bK j ⟨by omega,⟨by omega,by omega,by omega⟩,bK j ?_⟩⟩;rw[ho,<- hz];refine hn (i,f - val b,q.set (i / 32) z) _ (aA.to [0,1,6,7,8] [((1,0),1)] (by simp)) ⟨by simp[U],by simp only;omega,by simp only;omega,2*Q+1,?_,?_⟩ (by simp)
    .simp only;exact r.2 z hz
    .simp only;rw[u,D,V,sT,pX,sE];omega
   .refine hn (i,f,q) _ (aA.to [0,1,6,7,8] [((1,0),1)] (by simp[C])) ⟨U,by simp only;omega,H,2*Q,?_,?_⟩ (by simp)
    .simp only;rw[O,kJ,pX]
    .simp only;rw[u,D,V,<- d,sE,pX];omega
  .obtain⟨f,d⟩:∃ f,R+R=f:=⟨_,rfl⟩;have V:val a / 2^i % 2=0:=by omega
   simp[d];have W:(lb f).length<=4194305:=by
    have:=DZ o o;have:=DZ (m:=R+R) (n:=1) (a:=4194305) (by omega) (by rw[CC];simp)
    first|(rw[<- d];have h:=nR (n:=R+R+1) (k:=b.length+1) (by have:=oW b;rw[kJ];omega);omega)|(rw[<- d];omega)
   refine dC (Ms (lb f) b (by omega) (by omega) (tT _) ad) rfl ?_;simp[IY];refine⟨λG=>?_,λH=>?_⟩
   .refine dC (IA (lb f) b (by omega) (by simpa using G)) rfl ?_;simp;rw[hw,hm,J,L,Int.toNat_natCast,C];have j:i / 32<q.length:=by omega
    have gq:(q.getD (i / 32) 0)=q[i / 32]:=by simp[dO j]
    rw[gq]at r;obtain⟨z,hz⟩:∃ z:UInt32,z.toNat=q[i / 32].toNat ||| 2^(i % 32):=⟨UInt32.ofNat _,by rw[oH,uM r.1]⟩;have E:=Gb (s:=i % 32) (Ad _ (by omega));have M:((2:Int)^(i % 32) % 4294967296)=((2^(i % 32):Nat):Int):=by
     have:((2:Int)^(i % 32))=((2^(i % 32):Nat):Int):=by simp
     rw[this];generalize 2^(i % 32)=p at E ⊢;omega
    have ho:=Sx (x:=q[i / 32].toNat) (y:=2^(i % 32)) (jD _) (by omega);rw[M];refine⟨⟨by omega,by omega,by omega⟩,bK j ⟨by omega,⟨by omega,by omega,by omega⟩,bK j ?_⟩⟩;rw[ho,<- hz];refine hn (i,f - val b,q.set (i / 32) z) _ (aA.to [0,1,6,7,8] [((1,0),1)] (by simp)) ⟨by simp[U],by simp only;omega,by simp only;omega,2*Q+1,?_,?_⟩ (by simp)
    .simp only;exact r.2 z hz
    .simp only;rw[u,D,V,sT,pX,sE];omega
   .refine hn (i,f,q) _ (aA.to [0,1,6,7,8] [((1,0),1)] (by simp[C])) ⟨U,by simp only;omega,H,2*Q,?_,?_⟩ (by simp)
    .simp only;rw[O,kJ,pX]
    .simp only;rw[u,D,V,<- d,sE,pX];omega
def Qs(a b:List UInt32)(C:a.length<=4194304)(k:b.length<=4194304)(u:gK a)(z:gK b):zS 174 [.sl (ens a),.sl (ens b)] (.sl (ens (lb (Nat.gcd (val a) (val b))))):=by
 refine Sp.vz c.ki λ_=>?_;simp[g.ki];refine b6 (S:=λx:List UInt32 × List UInt32=>aB [(0,.p (.sl (ens x.1))),(1,.p (.sl (ens x.2)))] []) (I:=λx=>x.1.length<=4194304/\x.2.length<=4194304/\gK x.1/\gK x.2/\Nat.gcd (val x.1) (val x.2)=Nat.gcd (val a) (val b)) (m:=λx=>val x.2) (a,b) (aA.of (keep:=[0,1]) (ids:=[]) rfl) ⟨C,k,u,z,rfl⟩ ?_;rintro⟨x,y⟩ ⟨n,j,o,f,i⟩ R D F E;simp at n j o f i;simp[g.wu];refine⟨λh=>?_,λh=>E _ _ ?_⟩
 .have s:val y≠0:=λt=>by rw[<- wD f,t]at h;simp at h
  refine dC (LV x y n j s f) rfl ?_;simp;have d:=Nat.mod_lt (val x) (Nat.pos_of_ne_zero s);have r:=nR (Nat.lt_trans d (oW y));refine D (y,lb (val x % val y)) _ (aA.of (keep:=[0,1]) (ids:=[]) rfl) ⟨j,by simp only;omega,f,tT _,?_⟩ (by simpa using d);simp only[DU];rw[<- i,Nat.gcd_comm (val x),Nat.gcd_rec (val y) (val x),Nat.gcd_comm]
 .subst h;simp at i;simp;rw[<- i,wD o]
def DP(x:aT):zS 134 [enc x] (.sl (ens (if x.den=[]then[(1:UInt32)]else x.den))):=by refine Sp.vz c.j0 λ_=>?_;simp[g.j0];refine⟨λh=>by simp[h],λh=>by simp[h]⟩
def FY(f:Fr)(hd:f.d≠0)(s:f.e.sm 4194304):zS 132 [.bool f.neg,.sl (ens (lb f.n)),.sl (ens (lb f.d))] (enc (cR f.v)):=by
 obtain⟨j,o⟩:=s;simp only[Fr.e]at j o;refine Sp.vz c.go λ_=>?_;simp[g.go];refine⟨λh=>?_,λh=>?_⟩
 .simp[Mm h,yA]
 .have t:=Nu f.d (C9 h);refine dC (Qs _ _ j o (tT _) (tT _)) rfl ?_;have i:(lb (Nat.gcd f.n f.d)).length<=4194304:=by refine dM (nR (n:=Nat.gcd f.n f.d) (k:=(lb f.n).length) ?_) j;exact oY (Nat.gcd_le_left _ (C9 h)) (uB _)
  rw[Nk hd h];simp;refine dC (LV (lb f.n) (lb (Nat.gcd f.n f.d)) j i (by simp;omega) (tT _)) rfl ?_;simp;refine dC (LV (lb f.d) (lb (Nat.gcd f.n f.d)) o i (by simp;omega) (tT _)) rfl ?_;simp;refine dC (D4 _) rfl ?_;have m:(lb (f.d / Nat.gcd f.n f.d)=[1]) ↔ f.d / Nat.gcd f.n f.d=1:=⟨λh=>by have:=congrArg val h;simpa using this,λh=>by rw[h,CC]⟩;simp[m];refine⟨λr=>?_,λr=>?_⟩<;>simp[r]
def Q3(v:Int)(d : -9223372036854775808<=v)(f:v<=9223372036854775807):zS 138 [.int .i64 v] (.int .u64 v.natAbs):=by refine Sp.vz c.oj λ_=>?_;simp[g.oj];refine⟨λh=>?_,λh=>by omega⟩;rw[cL (n:=v+1) (by omega) (by omega),cL (by omega) (by omega)];omega
def BY{a:List UInt32}(h:0<a.length):(a[a.length - 1].toNat=0) ↔ ¬ gK a:=by simp only[gK,List.getLast?_eq_getElem?,List.getElem?_eq_getElem (show a.length - 1<a.length by omega)];simp;exact⟨λh=>ye (by simpa using h),λh=>by rw[h];rfl⟩
def z75(l:List UInt32)(h:gK l):l=[1] ↔ val l=1:=⟨λh=>by rw[h];rfl,λd=>by rw[<- wD h,d,CC]⟩
def IK(x:aT)(E:x.sm 4194304):zS 155 [enc x] (.bool x.valid):=by
 obtain⟨C,D⟩:=E;have en:IntKind.i64.wrap ((x.num.length:Int) - 1)=(x.num.length:Int) - 1:=cT;have z:IntKind.i64.wrap ((x.den.length:Int) - 1)=(x.den.length:Int) - 1:=cT;have o:((x.num.length:Int) - 1).toNat=x.num.length - 1:=by omega
 have n:((x.den.length:Int) - 1).toNat=x.den.length - 1:=by omega
 refine Sp.vz c.bs λ_=>?_;by_cases k:x.num=[]
 .by_cases i:x.den=[]
  .simp[g.bs,k,i];refine dC (D4 []) rfl ?_;simp;rw[Gg];refine⟨λh=>?_,λh=>?_⟩<;>simp[aT.valid,k,i,h]
  .have d:=Dd.2 i;simp[g.bs,k,d,z,n];refine bK (by omega) ⟨by omega,λj=>?_,λj=>?_⟩
   .simp[aT.valid,(BY d).1 j]
   .have s:gK x.den:=by simpa using (mt (BY d).2) j
    refine dC (D4 x.den) rfl ?_;simp;refine⟨λr=>by simp[aT.valid,k,i],λr=>?_⟩;rw[Gg];refine⟨λh=>?_,λh=>?_⟩<;>simp[aT.valid,k,i,h]
 .have f:=Dd.2 k;by_cases i:x.den=[]
  .simp[g.bs,f,i,en,o];refine bK (by omega) ⟨by omega,λj=>?_,λj=>?_⟩
   .simp[aT.valid,(BY f).1 j]
   .have s:gK x.num:=by simpa using (mt (BY f).2) j
    refine dC (D4 []) rfl ?_;simp[k];simp[aT.valid,k,i,s]
  .have d:=Dd.2 i;simp[g.bs,f,d,en,o,z,n];refine bK (by omega) ⟨by omega,λj=>?_,λj=>bK (by omega) ⟨by omega,λr=>?_,λr=>?_⟩⟩
   .simp[aT.valid,(BY f).1 j]
   .simp[aT.valid,(BY d).1 r]
   .have s:gK x.num:=by simpa using (mt (BY f).2) j
    have m:gK x.den:=by simpa using (mt (BY d).2) r
    refine dC (D4 x.den) rfl ?_;simp[k,i];refine⟨λu=>?_,λu=>?_⟩
    .simp[aT.valid,k,i,(z75 _ m).1 u]
    .refine dC (Qs x.num x.den C D s m) rfl ?_;simp;refine dC (D4 _) rfl ?_;have t:(lb ((val x.num).gcd (val x.den))=[1]) ↔ (val x.num).gcd (val x.den)=1:=⟨λh=>by have:=congrArg val h;simpa using this,λh=>by rw[h,CC]⟩;have y:¬ val x.den=1:=λh=>u ((z75 _ m).2 h);simp[aT.valid,k,i,s,m,t,y]
def zV(x:aT)(d:x.sm 4194304):zS 113 [enc x] (enc (cR x.v)):=by
 refine Sp.vz c.bj λ_=>?_;simp[g.bj];refine dC (IK x d) rfl ?_;simp;rw[Gg];refine⟨λh=>?_,λh=>?_⟩
 .have:=d.1;have:=d.2;simp[sx h];omega
 .simp[IJ h,yA]
def F5(x:aT)(j:x.sm 4194304):zS 152 [enc x] (.int .i64 (kM x.v)):=by
 refine Sp.vz c.d0 λ_=>?_;simp[g.d0];refine dC (zV x j) rfl ?_;have k:x.v=0 ↔ x.v.num=0:=Rat.num_eq_zero.symm;have i:0<=x.v ↔ 0<=x.v.num:=Rat.num_nonneg.symm;simp[cR,kM];rw[i];simp only[k];refine⟨λh=>?_,λh=>⟨λd=>?_,λd=>?_⟩⟩
 .rw[bD (by omega),aX h]
 .have f:x.v.num≠0:=λh=>by rw[h]at d;simp at d
  rw[bD f,bD (by omega)]
 .intro f;exact absurd d f
def yf1(x:aT)(f:x.sm 4194304):zS 351 [enc x] (enc (cR (-x.v))):=by
 refine Sp.vz c.qd λ_=>?_;simp[g.qd];refine dC (zV x f) rfl ?_;have i:x.v=0 ↔ x.v.num=0:=Rat.num_eq_zero.symm;simp[cR];simp only[i];refine⟨λd=>?_,λd=>by omega⟩;have j:x.v.num≠0:=λh=>by rw[h]at d;simp at d
 by_cases h:x.v.num<0
 .have:¬ 0<x.v.num:=by omega
  simp[h,this]
 .have:0<x.v.num:=by omega
  simp[h,this]
def Uz{x:aT}{n:Nat}(h:x.sm n):(cR x.v).sm n:=by
 by_cases d:x.valid=true
 .rw[sx d];exact h
 .rw[IJ (by simpa using d),yA];exact⟨by simp,by simp⟩
def JQ(q:Rat):(iq q).e=⟨(cR q).neg,(cR q).num,if (cR q).den=[]then[1]else(cR q).den⟩:=by have:=L4 (vD q);rw[kW]at this;exact this
def KB(x y:aT)(t:x.sm 1048576)(u:y.sm 1048576):zS 83 [enc x,enc y] (enc (cR (x.v*y.v))):=by
 have o:=sB t (by omega);have r:=sB u (by omega);have F:=Kx o r;have G:(rZ (iq x.v) (iq y.v)).d≠0:=yr2 (nH _) (nH _);have s:=M9 (iq x.v) (iq y.v);rw[zkp,zkp]at s;have ex:=JQ x.v;have n:=JQ y.v;simp only[Fr.e,aT.mk.injEq]at ex n;obtain⟨i,f,j⟩:=ex;obtain⟨k,h,m⟩:=n;obtain⟨z,C⟩:=o;obtain⟨D,E⟩:=r;simp only[Fr.e]at z C D E;refine Sp.vz c.jo λ_=>?_;simp[g.jo];refine fL (zV x (t.mono (by omega))) rfl ?_;simp;refine fL (zV y (u.mono (by omega))) rfl ?_;simp;refine fL (Gf (cR x.v).num (cR y.v).num (by rw[<- f];omega) (by rw[<- h];omega)) rfl ?_;simp;refine fL (DP (cR x.v)) rfl ?_;simp;refine fL (DP (cR y.v)) rfl ?_;simp only[<- i,<- f,<- j,<- k,<- h,<- m];simp;refine fL (Gf _ _ (by omega) (by omega)) rfl ?_;simp;refine fL (FY (rZ (iq x.v) (iq y.v)) G (F.mono (by omega))) ?_ ?_
 .simp[rZ,bne]
 .simp[s]
def Kl(x y:aT)(H:x.sm 1048576)(I:y.sm 1048576):zS 154 [enc x,enc y] (enc (cR (x.v+y.v))):=by
 have k:=sB H (by omega);have m:=sB I (by omega);have E:=Fz k m;have F:(jA (iq x.v) (iq y.v)).d≠0:=Fp (nH _) (nH _);have r:=Fq (f:=iq x.v) (g:=iq y.v) (nH _) (nH _);rw[zkp,zkp]at r;have ex:=JQ x.v;have G:=JQ y.v;have Q:=yj k.1 m.2;have R:=yj m.1 k.2;have S:=yj k.2 m.2;simp only[Fr.e,aT.mk.injEq]at ex G;obtain⟨s,t,i⟩:=ex;obtain⟨z,C,j⟩:=G;obtain⟨J,L⟩:=k;obtain⟨M,O⟩:=m;simp only[Fr.e]at J L M O;refine Sp.vz c.gt λ_=>?_;simp[g.gt];refine fL (zV x (H.mono (by omega))) rfl ?_;simp;refine fL (zV y (I.mono (by omega))) rfl ?_;simp;refine fL (DP (cR y.v)) rfl ?_;simp only[<- s,<- t,<- z,<- C,<- j];simp;refine fL (Gf _ _ (by omega) (by omega)) rfl ?_;simp;refine fL (DP (cR x.v)) rfl ?_;simp only[<- i];simp;refine fL (Gf _ _ (by omega) (by omega)) rfl ?_;simp;refine fL (DP (cR x.v)) rfl ?_;simp only[<- i];simp;refine fL (DP (cR y.v)) rfl ?_;simp only[<- j];simp;refine fL (Gf _ _ (by omega) (by omega)) rfl ?_;simp;generalize iq x.v=u at *
 generalize iq y.v=w at *
 refine⟨λh=>?_,λh=>?_⟩
 .refine fL (LA (lb (u.n*w.d)) (lb (w.n*u.d)) (by omega) (by omega)) rfl ?_;simp;refine fL (FY (jA u w) F (E.mono (by omega))) ?_ ?_
  .simp[h,jA]
  .simp[r]
 .refine dC (Ms (lb (u.n*w.d)) (lb (w.n*u.d)) (by omega) (by omega) (tT _) (tT _)) rfl ?_;simp[IY];refine⟨λo=>?_,λo=>?_⟩
  .refine fL (IA (lb (u.n*w.d)) (lb (w.n*u.d)) (by omega) (by simpa using o)) rfl ?_;simp;refine fL (FY (jA u w) F (E.mono (by omega))) ?_ ?_
   .simp[h,o,jA]
   .simp[r]
  .have D:¬ (w.n*u.d<=u.n*w.d):=Nat.not_le.2 o;refine fL (IA (lb (w.n*u.d)) (lb (u.n*w.d)) (by omega) (by simp;omega)) rfl ?_;simp;refine fL (FY (jA u w) F (E.mono (by omega))) ?_ ?_
   .simp[h,D,jA]
   .simp[r]
def QI{x y:aT}{n:Nat}(d:x.sm n)(h:y.sm n)(hn:1<=n):(cR (x.v+y.v)).sm (n+n+1):=by have e:=Fq (f:=iq x.v) (g:=iq y.v) (nH _) (nH _);rw[zkp,zkp]at e;rw[<- e];exact IF (Fp (nH _) (nH _)) (Fz (sB d hn) (sB h hn))
def QG{x y:aT}{n:Nat}(d:x.sm n)(f:y.sm n)(hn:1<=n):(cR (x.v*y.v)).sm (n+n):=by have e:=M9 (iq x.v) (iq y.v);rw[zkp,zkp]at e;rw[<- e];exact IF (yr2 (nH _) (nH _)) (Kx (sB d hn) (sB f hn))
def QH{x:aT}{n:Nat}(d:x.sm n)(hn:1<=n):(cR (-x.v)).sm n:=by have e:=Na (iq x.v);rw[zkp]at e;rw[<- e];exact IF (f:=pF (iq x.v)) (nH x.v) (sB d hn)
def yek(x y:aT)(f:x.sm 1048576)(d:y.sm 1048576):zS 306 [enc x,enc y] (enc (cR (x.v - y.v))):=by refine Sp.vz c.py λ_=>?_;simp[g.py];refine fL (yf1 y (d.mono (by omega))) rfl ?_;simp;refine fL (Kl x (cR (-y.v)) f (QH d (by omega))) rfl ?_;simp[kW,TP]
def zyl(x y:aT)(d:x.sm 1048576)(f:y.sm 1048576):zS 253 [enc x,enc y] (.int .i64 (kM (x.v - y.v))):=by have h:=QI d (QH f (by omega)) (by omega);rw[kW,<- Rat.sub_eq_add_neg]at h;refine Sp.vz c.pk λ_=>?_;simp[g.pk];refine dC (yek x y d f) rfl ?_;simp;refine dC (F5 (cR (x.v - y.v)) (h.mono (by omega))) rfl ?_;simp[kW]
def Tt(x y:aT)(h:x.sm 1048576)(i:y.sm 1048576):zS 172 [enc x,enc y] (.bool (decide (x.v<y.v))):=by
 refine Sp.vz c.kf λ_=>?_;simp[g.kf];refine dC (zyl x y h i) rfl ?_;have j:x.v<y.v ↔ (x.v - y.v).num<0:=by
  rw[Rat.lt_iff_sub_pos];have:(x.v - y.v) = -(y.v - x.v):=by rw[Rat.neg_sub]
  rw[this,Rat.neg_num];have f:0<=y.v - x.v ↔ 0<=(y.v - x.v).num:=Rat.num_nonneg.symm;have d:(y.v - x.v)=0 ↔ (y.v - x.v).num=0:=Rat.num_eq_zero.symm;rw[Rat.lt_iff_le_and_ne,f,ne_comm,Ne,d];omega
 simp only[j,kM];simp;have d:x.v - y.v=0 ↔ (x.v - y.v).num=0:=Rat.num_eq_zero.symm;simp only[d];generalize (x.v - y.v).num=z
 (repeat' split)<;>omega
def PC(x:aT)(k:Nat):zS 58 [enc x,.int .i64 k] (.bool (decide (x.num.length<=k/\x.den.length<=k))):=by refine Sp.vz c.jl λ_=>?_;simp[g.jl];exact⟨λh _=>h,λh d=>by omega⟩
def PS(a b:List UInt32)(u:a.length<=1073741824):zS 96 [.sl (ens a),.sl (ens b)] (.bool (decide (a=b))):=by
 refine Sp.vz c.nt λ_=>?_;simp[g.nt];refine⟨λh=>?_,λh=>?_⟩
 .have h:a.length=b.length:=by omega
  refine b6 (S:=λk:Nat=>aB [(0,.p (.sl (ens a))),(1,.p (.sl (ens b))),(5,.p (.int .i64 k))] []) (I:=λk=>k<=a.length/\a.take k=b.take k) (m:=λk=>a.length - k) 0 (aA.of (keep:=[0,1,5]) (ids:=[]) rfl) ⟨by omega,by simp⟩ ?_;rintro k ⟨s,f⟩ R n o r;simp[g.vj,aB];refine⟨λi=>bK i (bK (by omega) ⟨λt=>?_,λj=>o _ ?_⟩),λi=>r _ _ ?_⟩
  .rw[cL (by omega) (by omega)];refine n (k+1) _ (aA.of (keep:=[0,1,5]) (ids:=[]) rfl) ⟨by omega,?_⟩ (by omega);rw[ed i,ed (by omega),f,ye (by omega:a[k].toNat=b[k].toNat)]
  .simp;intro d;subst d;exact j rfl
  .have:k=a.length:=by omega
   subst this;simp;rw[kK,h,kK]at f;exact f
 .intro d;subst d;exact h rfl
deriving instance DecidableEq for aT
def wF(x y:aT)(i:x.sm 1073741824):zS 45 [enc x,enc y] (.bool (decide (x=y))):=by refine Sp.vz c.dr λ_=>?_;simp[g.dr];refine⟨λh=>?_,λh d=>h (by rw[d])⟩;refine dC (PS _ _ i.1) rfl ?_;simp;refine⟨λf=>?_,λf d=>f (by rw[d])⟩;refine dC (PS _ _ i.2) rfl ?_;simp;exact⟨λj=>by cases x;cases y;simp_all,λd=>by rw[d]⟩
def ybd(a b:Int)(d : -9223372036854775808<=a/\a<=9223372036854775807)(f : -9223372036854775808<=b/\b<=9223372036854775807) :
  zS 97 [.int .i64 a,.int .i64 b] (.bM [enc (if b=0 then cR 0 else cR (Rat.divInt a b)),.int .i64 (if b=0 then 11 else 0)]):=by
 have i:=nR (n:=a.natAbs) (k:=2) (by omega);have j:=nR (n:=b.natAbs) (k:=2) (by omega);refine Sp.vz c.ny λ_=>?_;simp[g.ny];refine⟨λh=>by simp[h,yA],λh=>?_⟩;refine dC (Q3 a d.1 d.2) rfl ?_;simp;refine dC (Q1 a.natAbs (by omega)) (by simp) ?_;simp;refine dC (Q3 b f.1 f.2) rfl ?_;simp;refine dC (Q1 b.natAbs (by omega)) (by simp) ?_;simp;refine dC (FY ⟨decide (a<0) != decide (b<0),a.natAbs,b.natAbs⟩ (by simpa using h) ⟨by simp only[Fr.e];omega,by simp only[Fr.e];omega⟩) ?_ ?_
 .simp[bne]
 .simp[Ps,h]
def Cy(a b:Int)(f : -9223372036854775808<=a/\a<=9223372036854775807)(h : -9223372036854775808<=b/\b<=9223372036854775807)(d:b≠0) :
  zS 46 [.int .i64 a,.int .i64 b] (enc (cR (Rat.divInt a b))):=by
 refine Sp.vz c.dt λ_=>?_;simp[g.dt];refine dC (ybd a b f h) rfl ?_;simp[d]
def jT{P:Program}{N:Nat}{Q:Exit->St->Prop}{b:GC}{ks:List Kt}{st:St}
  (h:∀ R:Exit->St->Prop,(∀ s,vL P N Q b ks s->R .normal s)->(∀ s,Q .ret s->R .ret s)->(∀ id s,gA P N Q (fO id ks) id s->R (.exit id) s)->vm P N R [.code b] st):vL P N Q b ks st:=by
 obtain⟨ex,s,f,i⟩:=lL (P:=P) (N:=N) _ (dE _) (h (λex s=>(ex=.normal->vL P N Q b ks s)/\(ex ≠ .normal->eT P N Q ks ex s)) (λs h=>⟨λ_=>h,λh=>absurd rfl h⟩)
  (λs h=>⟨λh=>(by cases h),λ_=>zU h⟩) (λid s h=>⟨λh=>(by cases h),λ_=>Ia (by simp) h (.inr ⟨id,rfl⟩)⟩))
 by_cases d:ex=.normal
 .subst d;obtain⟨ex,m,j,k⟩:=i.1 rfl;exact⟨ex,m,.next _ _ _ _ f j,k⟩
 .exact⟨ex,s,.out _ _ _ f d,i.2 d⟩
structure Ex where
 a:Int
 b:Int
 c:Int
 deriving DecidableEq
instance:Enc Ex:=⟨λx=>.agg [.int .i64 x.a,.int .i64 x.b,.int .i64 x.c],3,by decide,λ_=>rfl⟩
@[simp] theorem yog(x:Ex):enc x=.agg [.int .i64 x.a,.int .i64 x.b,.int .i64 x.c]:=rfl
@[simp] theorem yk4:Enc.sz Ex=3:=rfl
structure aF where
 e:Ex
 bE:aT
 deriving DecidableEq
instance:Enc aF:=⟨λx=>.agg [.int .i64 x.e.a,.int .i64 x.e.b,.int .i64 x.e.c,.bool x.bE.neg,.sl (ens x.bE.num),.sl (ens x.bE.den)],6,by decide,λ_=>rfl⟩
@[simp] theorem yk7(x:aF):enc x=.agg [.int .i64 x.e.a,.int .i64 x.e.b,.int .i64 x.e.c,.bool x.bE.neg,.sl (ens x.bE.num),.sl (ens x.bE.den)]:=rfl
@[simp] theorem yhp:Enc.sz aF=6:=rfl
def Ex.cmp(x y:Ex):Int:=if x.a<y.a then -1 else if y.a<x.a then 1 else if x.b<y.b then -1 else if y.b<x.b then 1 else if x.c<y.c then -1 else if y.c<x.c then 1 else 0
def Ex.ok(x:Ex):Bool:=decide (0<=x.a/\x.a<=5/\0<=x.b/\x.b<=5/\0<=x.c/\x.c<=5/\x.a+x.b+x.c<=5)
@[simp] theorem w0:IntKind.i64.wrap 0=0:=by decide
@[simp] theorem w1:IntKind.i64.wrap 1=1:=by decide
@[simp] theorem w2:IntKind.i64.wrap 2=2:=by decide
@[simp] theorem w3:IntKind.i64.wrap 3=3:=by decide
@[simp] theorem w4:IntKind.i64.wrap 4=4:=by decide
def Me(x y:Ex):zS 153 [enc x,enc y] (.int .i64 (x.cmp y)):=by
 refine Sp.vz c.gr λ_=>?_;simp[g.gr];refine jT λR i d m=>?_;simp[g.qy];refine⟨λh=>i _ ?_,λh=>⟨λf=>d _ (by simp[Ex.cmp,f]),λf=>d _ ?_⟩⟩
 .refine jT λR i d m=>?_;simp[g.qy];refine⟨λk=>i _ ?_,λk=>⟨λf=>d _ (by simp[Ex.cmp,h,f]),λf=>d _ ?_⟩⟩
  .refine jT λR i d m=>?_;simp[g.qy];refine⟨λn=>i _ ?_,λn=>⟨λf=>d _ (by simp[Ex.cmp,h,k,f]),λf=>d _ ?_⟩⟩
   .refine jT λR i d m=>?_;simp[g.qy];refine m _ _ ?_;simp[Ex.cmp,h,k,n]
   .have:y.c<x.c:=by omega
    have j:¬ x.c<y.c:=by omega
    simp[Ex.cmp,h,k,j,this]
  .have:y.b<x.b:=by omega
   have j:¬ x.b<y.b:=by omega
   simp[Ex.cmp,h,j,this]
 .have:y.a<x.a:=by omega
  have j:¬ x.a<y.a:=by omega
  simp[Ex.cmp,j,this]
def Rg(x:Ex):zS 151 [enc x] (.bool x.ok):=by
 refine Sp.vz c.ka λ_=>?_;simp[g.ka];have d:¬ (0<=x.a/\x.a<=5/\0<=x.b/\x.b<=5/\0<=x.c/\x.c<=5)->x.ok=false:=λh=>by unfold Ex.ok;exact decide_eq_false (λn=>h (by omega))
 refine jT λR i f m=>?_;simp[g.qx];refine⟨λh=>f _ (by simp[d (by omega)]),λh=>⟨λn=>f _ (by simp[d (by omega)]),λn=>i _ ?_⟩⟩;rw[cL (by omega) (by omega)];refine jT λR i f m=>?_;simp[g.qx];refine⟨λo=>f _ (by simp[d (by omega)]),λo=>⟨λj=>f _ (by simp[d (by omega)]),λj=>i _ ?_⟩⟩;rw[cL (by omega) (by omega)];refine jT λR i f m=>?_;simp[g.qx];refine⟨λr=>f _ (by simp[d (by omega)]),λr=>⟨λk=>f _ (by simp[d (by omega)]),λk=>i _ ?_⟩⟩;rw[cL (by omega) (by omega)];refine jT λR i f m=>?_;simp[g.qx];refine m _ _ ?_;simp[Ex.ok];simp[h,n,o,j,r,k]
def aF.ok(m:aF):Bool:=m.e.ok&&m.bE.valid&&decide (m.bE.v≠0)
def bS(p:List aF):Prop:=∀ i,(h:i<p.length)->p[i].ok=true/\(0<i->p[i].e.cmp (p[i - 1]'(by omega)).e<0)
noncomputable instance (p:List aF):Decidable (bS p):=Classical.propDecidable _
noncomputable def pv(p:List aF):List aF:=if bS p then p else[]
def fP(p:List aF)(n:Nat):Prop:=∀ m∈p,m.bE.sm n
def Et(q:Rat):kM q=0 ↔ q=0:=by have d:q=0 ↔ q.num=0:=Rat.num_eq_zero.symm;unfold kM;rw[d];(repeat' split)<;>omega
def P'(p:List aF)(hp:fP p 1048576)(O:p.length<=1073741824):zS 173 [.sl (ens p)] (.bool (decide (bS p))):=by
 refine Sp.vz c.kg λ_=>?_;simp[g.kg];refine b6 (S:=λk:Nat=>aB [(0,.p (.sl (ens p))),(3,.p (.int .i64 k))] []) (I:=λk=>k<=p.length/\∀ i,(h:i<p.length)->i<k->p[i].ok=true/\(0<i->p[i].e.cmp (p[i - 1]'(by omega)).e<0)) (m:=λk=>p.length - k) 0 (aA.of (keep:=[0,3]) (ids:=[]) rfl) ⟨by omega,λi h J=>by omega⟩ ?_;rintro k ⟨L,y⟩ R D o H;simp[g.wr,aB];refine⟨λd=>?_,λd=>H _ _ ?_⟩
 .refine bK d ?_;have f:p[k].ok=false->decide (bS p)=false:=λh=>decide_eq_false λu=>by have:=(u k d).1;rw[h]at this;cases this
  refine bA (Rg p[k].e) rfl ?_;obtain h3|h3:=iK p[k].e.ok;rotate_left
  .simp[h3];refine o _ ?_;simp;simpa using f (by simp[aF.ok,h3])
  simp[h3];refine bK d ?_;have n:p[k].bE.sm 1048576:=hp _ (bU d);refine bA (IK p[k].bE (n.mono (by omega))) rfl ?_;obtain j|j:=iK p[k].bE.valid;rotate_left
  .simp[j];refine o _ ?_;simp;simpa using f (by simp[aF.ok,j])
  simp[j];refine bK d ?_;refine bA (F5 p[k].bE (n.mono (by omega))) rfl ?_;simp[Et];refine⟨λr=>?_,λr=>?_⟩
  .refine o _ ?_;simp;simpa using f (by simp[aF.ok,r])
  have t:p[k].ok=true:=by simp[aF.ok,h3,j,r]
  have E:IntKind.i64.wrap ((k:Int) - 1)=(k:Int) - 1:=cT;have F:((k:Int) - 1).toNat=k - 1:=by omega
  have x:=aZ k;have step:(0<k->p[k].e.cmp (p[k - 1]'(by omega)).e<0)->∀ i,(h:i<p.length)->i<k+1->p[i].ok=true/\(0<i->p[i].e.cmp (p[i - 1]'(by omega)).e<0):=λG i h M=>by
   by_cases s:i<k
   .exact y i h s
   .have:i=k:=by omega
    subst this;exact⟨t,G⟩
  refine⟨λz=>?_,λz=>?_⟩
  .refine bK d ?_;simp[E,F];refine bK (by omega) ⟨by omega,?_⟩;refine bA (Me p[k].e (p[k - 1]'(by omega)).e) rfl ?_;simp[x];refine⟨λC=>o _ ?_,λC=>?_⟩
   .simp;exact λu=>by have:=(u k d).2 z;omega
   .exact D (k+1) _ (aA.of (keep:=[0,3]) (ids:=[]) rfl) ⟨by omega,step λ_=>C⟩ (by omega)
  .simp[x];exact D (k+1) _ (aA.of (keep:=[0,3]) (ids:=[]) rfl) ⟨by omega,step λh=>by omega⟩ (by omega)
 .have:k=p.length:=by omega
  subst this;have:bS p:=λi h=>y i h h;simp[this]
def fP.mono{p:List aF}{m n:Nat}(h:fP p m)(k:m<=n):fP p n:=λx d=>(h x d).mono k
def Ee(p:List aF)(hp:fP p 1048576)(s:p.length<=1073741824):zS 131 [.sl (ens p)] (.sl (ens (pv p))):=by
 refine Sp.vz c.gn λ_=>?_;simp[g.gn];refine bA (P' p hp s) rfl ?_;by_cases i:bS p;rotate_left
 .simp[i,pv]
 simp[i,pv]
 refine b6 (S:=λx:Nat × List aF=>aB [(0,.p (.sl (ens p))),(3,.own 1 0 0 x.2.length),(4,.p (.int .i64 x.1))] [(1,⟨6,aK x.2⟩)]) (I:=λx=>x.1<=p.length/\x.2=p.take x.1) (m:=λx=>p.length - x.1) (0,[])
  (aA.nl 3 1 6 rfl (aA.to [0,3,4] [((1,0),1)] (by simp))) ⟨by omega,by simp⟩ ?_
 rintro⟨k,l⟩ ⟨r,f⟩ R u z y;simp at r f ⊢;have t:l.length=k:=by rw[f];simp;omega
 simp[g.wh,aB];refine⟨λd=>?_,λd=>y _ _ ?_⟩
 .refine bK d ?_
  skip
  refine bK d ?_;have n:=(i k d).1;have j:p[k].bE.valid=true:=by simp[aF.ok]at n;exact n.1.2
  refine bA (zV p[k].bE ((hp _ (bU d)).mono (by omega))) rfl ?_;rw[sx j];simp;have o:=aZ k;rw[o];refine⟨by omega,u (k+1,l++[p[k]]) _ (aA.to [0,3,4] [((28,0),1)] (by simp)) ⟨by omega,?_⟩ (by simp;omega)⟩;show l++[p[k]]=p.take (k+1);rw[f,ed d]
 .have:k=p.length:=by omega
  have h:l=p:=by rw[f,this,kK]
  subst h;simp
def Ul(p:List aF):bS (pv p):=by
 unfold pv;split
 .assumption
 .intro i h;simp at h
def Uk{p:List aF}{n:Nat}(h:fP p n):fP (pv p) n:=by
 unfold pv;split
 .exact h
 .intro x d;simp at d
def Uj(p:List aF):(pv p).length<=p.length:=by unfold pv;split<;>simp
def zG{p:List aF}(h:bS p):pv p=p:=by simp[pv,h]
def pat:List aF->Ex->Nat
 | [],_=>0
 | m::p,e=>if 0<m.e.cmp e then pat p e+1 else 0
theorem ZD(p:List aF)(e:Ex):pat p e<=p.length:=by
 induction p with
 | nil=>simp[pat]
 | cons m p d=>simp only[pat];split<;>simp<;>omega
theorem ZE{p:List aF}{e:Ex}{i:Nat}(h:i<pat p e):∃ h:i<p.length,0<p[i].e.cmp e:=by
 induction p generalizing i with
 | nil=>simp[pat]at h
 | cons m p j =>
  simp only[pat]at h;split at h
  .rename_i f;cases i with
   | zero=>exact⟨by simp,by simpa using f⟩
   | succ i=>obtain⟨k,d⟩:=j (by omega:i<pat p e);exact⟨by simp;omega,by simpa using d⟩
  .omega
theorem ZC{p:List aF}{e:Ex}(h:pat p e<p.length):¬ 0<p[pat p e].e.cmp e:=by
 induction p with
 | nil=>simp at h
 | cons m p f =>
  by_cases d:0<m.e.cmp e
  .have:pat (m::p) e=pat p e+1:=by simp[pat,d]
   simp only[this,List.getElem_cons_succ];exact f (by simp[this]at h;omega)
  .have:pat (m::p) e=0:=by simp[pat,d]
   simp only[this,Nt];exact d
def ya1{p:List aF}{e:Ex}{k:Nat}(j:k<=p.length)(d:∀ i,(h:i<p.length)->i<k->0<p[i].e.cmp e)(f:∀ h:k<p.length,¬ 0<p[k].e.cmp e):k=pat p e:=by
 obtain h|h|h:=NB k (pat p e)
 .obtain⟨a,b⟩:=ZE h;exact absurd b (f a)
 .exact h
 .have:=ZD p e;exact absurd (d _ (by omega) h) (ZC (by omega))
def fS(p:List aF)(e:Ex)(q:Rat):List aF :=
 if e.ok=false\/q=0 then p else
 match p[pat p e]? with
 | none=>p++[⟨e,cR q⟩]
 | some m=>if m.e=e then(if q+m.bE.v=0 then p.take (pat p e)++p.drop (pat p e+1)else p.take (pat p e)++⟨e,cR (q+m.bE.v)⟩::p.drop (pat p e+1))else p.take (pat p e)++⟨e,cR q⟩::p.drop (pat p e)
def Ex.tE{x y:Ex}:x.cmp y=0 ↔ x=y:=by unfold Ex.cmp;obtain⟨a,b,c⟩:=x;obtain⟨d,f,h⟩:=y;simp only[Ex.mk.injEq];(repeat' split)<;>omega
def HK{α : Type}[Enc α]{n:Nat}{st:St}{es:List AV}{l d:List α}(h:es=aK l)(k:l=d):es.mapM (bH st (n+1))=some (ens d):=by rw[h,k,Ib]
attribute [local simp] iJ bP.aY
def KO(p:List aF)(m:aF)(hp:fP p 1048576)(V:p.length<=1073741823)(D:m.bE.sm 1048576)(J:m.bE.valid=true):zS 112 [.sl (ens p),enc m] (.sl (ens (fS p m.e m.bE.v))):=by
 refine Sp.vz c.gl λ_=>?_;simp[g.gl];refine bA (Rg m.e) rfl ?_;obtain h3|h3:=iK m.e.ok;rotate_left
 .simp[h3,fS]
 simp[h3];refine bA (F5 m.bE (D.mono (by omega))) rfl ?_;simp[Et];refine⟨λo=>by simp[o,fS],λo=>?_⟩
 refine b6 (S:=λk:Nat=>aB [(0,.p (.sl (ens p))),(3,.ptr 1 0 0 0),(5,.p (.int .i64 k))] [(1,⟨6,[.p (enc m)]⟩)]) (I:=λk=>k<=p.length/\∀ i,(h:i<p.length)->i<k->0<p[i].e.cmp m.e) (m:=λk=>p.length - k) 0
  (aA.to [0,3,5] [((3,0),1)] (by simp)) ⟨by omega,λi h o=>by omega⟩ ?_
 rintro k ⟨x,G⟩ R Q W L;have F:=aZ k;have n:(∀ h:k<p.length,¬ 0<p[k].e.cmp m.e)->R (.exit 0) (aB [(0,.p (.sl (ens p))),(3,.ptr 1 0 0 0),(5,.p (.int .i64 k))] [(1,⟨6,[.p (enc m)]⟩)]):=by
  intro M;refine L _ _ ?_;have s:=ya1 x G M;have f:min k p.length=k:=uN x;simp[aB,x];refine⟨by omega,λO=>?_,λO=>?_⟩
  .refine⟨by omega,by omega,by omega,?_⟩;have H:p.drop k=[]:=by rw[List.drop_eq_nil_iff];omega
   refine HK (l:=p++[m]) ?_ ?_
   .rw[eZ (by simp[H];omega),H,show p.take k=p by rw[eZ (by omega)]];simp
   .have t:p[k]?=none:=by rw[List.getElem?_eq_none_iff];omega
    simp[fS,h3,o,<- s,t,sx J]
  have d:k<p.length:=by omega
  refine bK d ?_;refine bA (Me p[k].e m.e) rfl ?_;simp;have E:(p.drop k).take (p.length - k)=p[k]::p.drop (k+1):=by rw[eZ (by simp),vJ d]
  have t:p[k]?=some p[k]:=dO d;refine⟨λz=>?_,λz=>?_⟩
  .have j:=Ex.tE.1 z;refine bK d ?_;refine bA (Kl m.bE p[k].bE D (hp _ (bU d))) rfl ?_;simp;refine bA (F5 (cR (m.bE.v+p[k].bE.v)) ((QI D (hp _ (bU d)) (by omega)).mono (by omega))) rfl ?_;rw[kW];simp[Et,f,F];have u:(p.drop (k+1)).take (p.length - (k+1))=p.drop (k+1):=by rw[eZ (by simp)]
   rw[u];refine⟨λr=>⟨⟨by omega,by omega⟩,by omega,HK (l:=p.take k++p.drop (k+1)) ?_ ?_⟩,λr=>⟨by omega,⟨by omega,by omega⟩,by omega,by omega,HK (l:=p.take k++⟨m.e,cR (m.bE.v+p[k].bE.v)⟩::p.drop (k+1)) ?_ ?_⟩⟩
   .rw[eZ (by simp;omega)];simp
   .simp[fS,h3,o,<- s,t,j,r]
   .rw[eZ (by simp;omega)];simp
   .simp[fS,h3,o,<- s,t,j,r]
  .refine⟨⟨f.symm,by omega⟩,x,⟨f.symm,by omega⟩,by omega,?_⟩;rw[E];refine HK (l:=p.take k++m::p[k]::p.drop (k+1)) ?_ ?_
   .rw[eZ (by simp;omega)];simp
   .have j:p[k].e≠m.e:=λh=>z (Ex.tE.2 h);simp[fS,h3,o,<- s,t,sx J,j]
 clear L;simp[g.v7,aB]at n ⊢;refine⟨λs=>?_,λs=>n λh=>by omega⟩;refine bK s ?_;refine bA (Me p[k].e m.e) rfl ?_;simp[F];refine⟨λy=>Q (k+1) _ (aA.to [0,3,5] [((1,0),1)] (by simp)) ⟨by omega,λi h U=>?_⟩ (by omega),λy=>n λ_=>y⟩;by_cases C:i<k
 .exact G i h C
 .have:i=k:=by omega
  subst this;exact y
end Go.Ab
namespace Go.Ab
open Enc (enc)
def qb(D B:Nat)(q:Rat):Prop:=∃ a:Int,q=mkRat a D/\a.natAbs<=B
def Hw{D B f:Nat}{x y:Rat}(h:qb D B x)(i:qb D f y)(d:D≠0):qb D (B+f) (x+y):=by obtain⟨a,rfl,j⟩:=h;obtain⟨b,rfl,k⟩:=i;refine⟨a+b,?_,by omega⟩;rw[Rat.mkRat_add_mkRat _ _ d d,<- Int.add_mul,Rat.mkRat_mul_right d]
def Up{D f B d:Nat}{x y:Rat}(j:qb D B x)(k:qb f d y):qb (D*f) (B*d) (x*y):=by
 obtain⟨a,rfl,h⟩:=j;obtain⟨b,rfl,i⟩:=k;refine⟨a*b,?_,?_⟩
 .rw[Rat.mkRat_mul_mkRat]
 .rw[Int.natAbs_mul];exact mT h i
def zip{D B:Nat}{x:Rat}(k:Nat)(f:k≠0)(h:qb D B x):qb (D*k) (B*k) x:=by
 obtain⟨a,rfl,d⟩:=h;refine⟨a*k,?_,?_⟩
 .rw[Rat.mkRat_mul_right f]
 .rw[Int.natAbs_mul];exact mT d (by simp)
def HZ(D:Nat):qb D 0 0:=⟨0,by simp,by simp⟩
def BL{D B d:Nat}{x:Rat}(h:qb D B x)(k:B<=d):qb D d x:=by obtain⟨a,e,h⟩:=h;exact⟨a,e,by omega⟩
def JU{D B n:Nat}{x:Rat}(h:qb D B x)(d:D≠0)(j:D<4294967296^n)(k:B<4294967296^n):(cR x).sm n:=by
 obtain⟨a,rfl,h⟩:=h;have f:(mkRat a D).num.natAbs<=B:=by rw[Rat.num_mkRat,bD d];exact dM (Int.natAbs_ediv_le_natAbs _ _) h
 have i:(mkRat a D).den<=D:=by rw[Rat.den_mkRat,bD d];exact Cc _ _
 refine⟨nR (oY f k),?_⟩;show(if (mkRat a D).den=1 then[]else lb (mkRat a D).den).length<=n;split
 .simp
 .exact nR (oY i j)
def Ex.code(e:Ex):Int:=e.a*36+e.b*6+e.c
def Ex.b0{e:Ex}:e.ok=true ↔ (0<=e.a/\e.a<=5/\0<=e.b/\e.b<=5/\0<=e.c/\e.c<=5/\e.a+e.b+e.c<=5):=by simp[Ex.ok]
def Ex.Bw{e:Ex}(h:e.ok=true):0<=e.code/\e.code<216:=by rw[Ex.b0]at h;unfold Ex.code;omega
def Ex.mH{x y:Ex}(d:x.ok=true)(f:y.ok=true):x.cmp y<0 ↔ x.code<y.code:=by rw[Ex.b0]at d f;unfold Ex.cmp Ex.code;(repeat' split)<;>omega
def Ex.vS{x y:Ex}(d:x.ok=true)(f:y.ok=true):0<x.cmp y ↔ y.code<x.code:=by rw[Ex.b0]at d f;unfold Ex.cmp Ex.code;(repeat' split)<;>omega
def Ex.mG{x y:Ex}(d:x.ok=true)(f:y.ok=true):x.code=y.code ↔ x=y:=by rw[Ex.b0]at d f;unfold Ex.code;obtain⟨a,b,c⟩:=x;obtain⟨h,i,j⟩:=y;simp only[Ex.mk.injEq]at *;omega
def iA{p:List aF}:bS p ↔ (∀ m∈p,m.ok=true)/\p.Pairwise (λx y=>y.e.code<x.e.code):=by
 have f:∀ {m:aF},m.ok=true->m.e.ok=true:=λh=>by simp[aF.ok]at h;exact h.1.1
 constructor
 .intro h;have k:∀ m∈p,m.ok=true:=λm z=>by obtain⟨i,n,rfl⟩:=Jt z;exact(h i n).1
  refine⟨k,Ns.2 λi j n s r=>?_⟩;obtain⟨d,rfl⟩:∃ d,j=i+1+d:=⟨j - i - 1,by omega⟩;clear r
  induction d with
  | zero =>
   have:=(h (i+1) s).2 (by omega);exact(Ex.mH (f (k _ (bU _))) (f (k _ (bU _)))).1 this
  | succ d C =>
   have o:=C (by omega);have t:=(h (i+1+(d+1)) s).2 (by omega);have u:=(Ex.mH (f (k _ (bU _))) (f (k _ (bU _)))).1 t;exact Int.lt_trans u o
 .rintro⟨k,o⟩ i n;refine⟨k _ (bU n),λD=>?_⟩;refine(Ex.mH (f (k _ (bU _))) (f (k _ (bU _)))).2 ?_;exact Ns.1 o (i - 1) i (by omega) n (by omega)
def pc:List aF->Ex->Rat
 | [],_=>0
 | m::p,e=>(if m.e=e then m.bE.v else 0)+pc p e
theorem Er(p q:List aF)(e:Ex):pc (p++q) e=pc p e+pc q e:=by
 induction p with
 | nil=>simp[pc,Bc]
 | cons m p d=>simp[pc,d,Af]
theorem D5{p:List aF}{e:Ex}(h:∀ m∈p,m.e≠e):pc p e=0:=by
 induction p with
 | nil=>rfl
 | cons m p f=>simp only[pc,bD (h m (by simp)),Bc];exact f λx d=>h x (by simp[d])
def BK{m:aF}{p:List aF}(h:bS (m::p)):pc (m::p) m.e=m.bE.v:=by have:=iA.1 h;simp only[pc,cH];rw[D5,qY];intro x f d;have:=(mS.1 this.2).1 x f;rw[d]at this;omega
def bS.tail{m:aF}{p:List aF}(h:bS (m::p)):bS p:=by have:=iA.1 h;exact iA.2 ⟨λx d=>this.1 x (by simp[d]),(mS.1 this.2).2⟩
theorem Ip{p q:List aF}(hp:bS p)(i:bS q)(h:∀ e,pc p e=pc q e):p=q:=by
 have f:∀ {m:aF},m.ok=true->m.e.ok=true/\m.bE.valid=true/\m.bE.v≠0:=λh=>by simp[aF.ok]at h;exact⟨h.1.1,h.1.2,h.2⟩
 induction p generalizing q with
 | nil =>
  cases q with
  | nil=>rfl
  | cons m q =>
   have:=h m.e;rw[BK i]at this;exact absurd this.symm (f ((iA.1 i).1 m (by simp))).2.2
 | cons m p y =>
  cases q with
  | nil =>
   have:=h m.e;rw[BK hp]at this;exact absurd this (f ((iA.1 hp).1 m (by simp))).2.2
  | cons k q =>
   have r:=f ((iA.1 hp).1 m (by simp));have s:=f ((iA.1 i).1 k (by simp));have o:m.e=k.e:=by
    obtain n|n|n:=Int.lt_trichotomy m.e.code k.e.code
    .have:=h k.e;rw[BK i,D5]at this
     .exact absurd this.symm s.2.2
     .intro x j d;obtain rfl|j:=cI.1 j
      .rw[d]at n;omega
      .have:=(mS.1 (iA.1 hp).2).1 x j;rw[d]at this;omega
    .exact(Ex.mG r.1 s.1).1 n
    .have:=h m.e;rw[BK hp,D5]at this
     .exact absurd this r.2.2
     .intro x j d;obtain rfl|j:=cI.1 j
      .rw[d]at n;omega
      .have:=(mS.1 (iA.1 i).2).1 x j;rw[d]at this;omega
   have t:m.bE=k.bE:=by have:=h m.e;rw[BK hp,o,BK i]at this;rw[<- sx r.2.1,<- sx s.2.1,this]
   have u:m=k:=by cases m;cases k;simp at o t;simp[o,t]
   subst u
   congr 1
   refine y hp.tail i.tail λe=>?_;have:=h e;simp only[pc]at this;exact Rat.add_left_cancel _ this
def pins:List aF->Ex->Rat->List aF
 | [],e,q=>[⟨e,cR q⟩]
 | m::p,e,q=>if 0<m.e.cmp e then m::pins p e q else if m.e=e then(if q+m.bE.v=0 then p else⟨e,cR (q+m.bE.v)⟩::p)else⟨e,cR q⟩::m::p
def Mg(p:List aF)(e:Ex)(q:Rat):fS p e q=if e.ok=false\/q=0 then p else pins p e q:=by
 unfold fS;split
 .rfl
 .rename_i h
  induction p with
  | nil=>simp[pat,pins]
  | cons m p f =>
   by_cases d:0<m.e.cmp e
   .simp only[pat,aX d,List.getElem?_cons_succ,GV,NF,pins,<- f];cases p[pat p e]? with
    | none=>simp
    | some x=>simp only[xX];(repeat' split)<;>rfl
   .simp[pat,pins,d]
def aF.b0{m:aF}:m.ok=true ↔ m.e.ok=true/\m.bE.valid=true/\m.bE.v≠0:=by simp[aF.ok,and_assoc]
theorem yaw{p:List aF}{e:Ex}{q:Rat}{x:aF}(h:x∈pins p e q):x.e=e\/x∈p:=by
 induction p with
 | nil=>simp[pins]at h;exact .inl (by rw[h])
 | cons m p d =>
  simp only[pins]at h;split at h
  .obtain rfl|h:=cI.1 h
   .exact .inr (by simp)
   .obtain h|h:=d h
    .exact .inl h
    .exact .inr (by simp[h])
  .split at h
   .split at h
    .exact .inr (by simp[h])
    .obtain rfl|h:=cI.1 h
     .exact .inl rfl
     .exact .inr (by simp[h])
   .obtain rfl|h:=cI.1 h
    .exact .inl rfl
    .exact .inr h
theorem yav{p:List aF}{e:Ex}{q:Rat}(hp:bS p)(k:e.ok=true)(u:q≠0):bS (pins p e q):=by
 have i:∀ {r:Rat},r≠0->(⟨e,cR r⟩:aF).ok=true:=λ{r} h=>aF.b0.2 ⟨k,vD r,by rw[kW];exact h⟩
 induction p with
 | nil=>exact iA.2 ⟨λm t=>by simp[pins]at t;rw[t];exact i u,by simp[pins]⟩
 | cons m p y =>
  have h:=iA.1 hp;have s:=(aF.b0.1 (h.1 m (by simp))).1;have n:=(mS.1 h.2).1;simp only[pins];split
  .rename_i o;have j:=iA.1 (y hp.tail);refine iA.2 ⟨λx d=>?_,mS.2 ⟨λx d=>?_,j.2⟩⟩
   .obtain rfl|d:=cI.1 d
    .exact h.1 x (by simp)
    .exact j.1 x d
   .obtain f|f:=yaw d
    .rw[f];exact(Ex.vS s k).1 o
    .exact n x f
  .rename_i o;split
   .rename_i j;split
    .exact hp.tail
    .rename_i f;refine iA.2 ⟨λx d=>?_,mS.2 ⟨λx d=>?_,(iA.1 hp.tail).2⟩⟩
     .obtain rfl|d:=cI.1 d
      .exact i f
      .exact h.1 x (by simp[d])
     .have:=n x d;rw[j]at this;exact this
   .rename_i j;have f:m.e.code<e.code:=by have z:¬ (e.code<m.e.code):=λh=>o ((Ex.vS s k).2 h);have C:¬ (m.e.code=e.code):=λh=>j ((Ex.mG s k).1 h);omega
    refine iA.2 ⟨λx d=>?_,mS.2 ⟨λx d=>?_,h.2⟩⟩
    .obtain rfl|d:=cI.1 d
     .exact i u
     .exact h.1 x d
    .obtain rfl|d:=cI.1 d
     .exact f
     .exact Int.lt_trans (n x d) f
theorem yfo(p:List aF)(e:Ex)(q:Rat)(d:Ex):pc (pins p e q) d=pc p d+if e=d then q else 0:=by
 induction p with
 | nil=>simp only[pins,pc,kW,qY,Bc]
 | cons m p j =>
  simp only[pins];split
  .simp only[pc,j,Af]
  .split
   .rename_i h;split
    .rename_i i;simp only[pc,h];by_cases f:e=d
     .simp only[aX f];rw[Cb (m.bE.v) (pc p d),Af,Cb m.bE.v q,i,qY]
     .simp[f,Bc,qY]
    .simp only[pc,h,kW];by_cases f:e=d
     .simp only[aX f];rw[Cb q m.bE.v,Af,Af,Cb q (pc p d)]
     .simp[f,Bc,qY]
   .simp only[pc,kW];rw[Cb]
def LC{p:List aF}(e:Ex)(q:Rat)(hp:bS p):bS (fS p e q):=by
 rw[Mg];split
 .exact hp
 .rename_i h;exact yav hp (by obtain d|d:=iK e.ok;exact d;exact absurd (.inl d) h) (λd=>h (.inr d))
def KI(p:List aF)(e:Ex)(q:Rat)(d:Ex):pc (fS p e q) d=pc p d+if e.ok=true/\e=d then q else 0:=by
 rw[Mg];split
 .rename_i h;obtain h|h:=h
  .simp[h,qY]
  .simp[h,qY]
 .rename_i h;have:e.ok=true:=by obtain f|f:=iK e.ok;exact f;exact absurd (.inl f) h
  rw[yfo];simp[this]
def tU{p:List aF}(h:bS p):p.length<=216:=by
 have f:=iA.1 h;have:∀ (p:List aF) (n:Int),(∀ m∈p,0<=m.e.code/\m.e.code<n)->p.Pairwise (λx y=>y.e.code<x.e.code)->(p.length:Int)<=n\/p=[]:=by
  intro p
  induction p with
  | nil=>intro n _ _;exact .inr rfl
  | cons m p s =>
   intro n d o;have i:=mS.1 o;rcases s m.e.code (λx k=>⟨(d x (by simp[k])).1,i.1 x k⟩) i.2 with j|j
   .have:=d m (by simp);left;simp;omega
   .have:=d m (by simp);left;subst j;simp;omega
 obtain d|d:=this p 216 (λm r=>Ex.Bw (aF.b0.1 (f.1 m r)).1) f.2
 .omega
 .simp[d]
end Go.Ab
namespace Go.Ab
open Enc (enc)
attribute [local simp] iJ bP.aY
theorem Hu{p:List aF}(hp:bS p){m:aF}(hm:m∈p):pc p m.e=m.bE.v:=by
 induction p with
 | nil=>simp at hm
 | cons x p i =>
  obtain rfl|hm:=cI.1 hm
  .exact BK hp
  .have d:=(mS.1 (iA.1 hp).2).1 m hm;have f:x.e≠m.e:=λh=>by rw[h]at d;omega
   simp only[pc,bD f,Bc];exact i hp.tail hm
theorem yfn{p:List aF}(hp:bS p)(k:Nat)(e:Ex):pc (p.take k) e=0\/pc (p.take k) e=pc p e:=by
 induction p generalizing k with
 | nil=>simp[pc]
 | cons x p i =>
  cases k with
  | zero=>simp[pc]
  | succ k =>
   by_cases h:x.e=e
   .right;subst h;rw[BK hp,GV];simp only[pc,cH];rw[D5,qY];intro y f d;have:=(mS.1 (iA.1 hp).2).1 y (iC f);rw[d]at this;omega
   .simp only[GV,pc,bD h,Bc];exact i hp.tail k
def lU(D B:Nat)(p:List aF):Prop:=∀ e,qb D B (pc p e)
def AK{D B n:Nat}{p:List aF}(h:lU D B p)(hp:bS p)(k:D≠0)(f:D<4294967296^n)(i:B<4294967296^n):fP p n:=by intro m d;have j:=aF.b0.1 ((iA.1 hp).1 m d);have:=JU (h m.e) k f i;rw[Hu hp d,sx j.2.1]at this;exact this
def SF(D:Nat):lU D 0 []:=λ_=>HZ D
def SG{D B d:Nat}{p:List aF}(h:lU D B p){q:Rat}(j:qb D d q)(i:D≠0)(e:Ex):lU D (B+d) (fS p e q):=by
 intro f;rw[KI];split
 .exact Hw (h f) j i
 .exact BL (by rw[qY];exact h f) (by omega)
def D1:bS []:=λi h=>by simp at h
def eN(p q:List aF):List aF:=q.foldl (λo m=>fS o m.e m.bE.v) p
theorem xU{p:List aF}(q:List aF)(hp:bS p):bS (eN p q):=by
 induction q generalizing p with
 | nil=>exact hp
 | cons m q d=>exact d (LC _ _ hp)
theorem zP(p:List aF){q:List aF}(d:∀ m∈q,m.ok=true)(e:Ex):pc (eN p q) e=pc p e+pc q e:=by
 induction q generalizing p with
 | nil=>simp[eN,pc,qY]
 | cons m q h =>
  have:=h (fS p m.e m.bE.v) λx f=>d x (by simp[f]);show pc (eN (fS p m.e m.bE.v) q) e=_;rw[this,KI];have:=(aF.b0.1 (d m (by simp))).1;simp[pc,this,Af]
def bS.take{p:List aF}(hp:bS p)(k:Nat):bS (p.take k):=by have:=iA.1 hp;exact iA.2 ⟨λx d=>this.1 x (iC d),this.2.sublist (Js _ _)⟩
def yaq{D B:Nat}{p:List aF}(h:lU D B p)(hp:bS p)(k:Nat):lU D B (p.take k):=by
 intro e;obtain d|d:=yfn hp k e
 .rw[d];exact BL (HZ D) (by omega)
 .rw[d];exact h e
def ye8{D B d:Nat}{p q:List aF}(h:lU D B p)(f:lU D d q)(j:bS q)(i:D≠0):lU D (B+d) (eN p q):=by intro e;rw[zP p (iA.1 j).1];exact Hw (h e) (f e) i
theorem V3{p q:List aF}{k:Nat}(h:k<q.length):eN p (q.take (k+1))=fS (eN p (q.take k)) q[k].e q[k].bE.v:=by unfold eN;rw[ed h,z8];rfl
def yhh(p q:List aF)(D B r:Nat)(hp:bS p)(f:bS q)(s:lU D B p)(t:lU D r q)(d:D≠0)(n:D<4294967296^1048576)(j:B+r<4294967296^1048576) :
  zS 91 [.sl (ens p),.sl (ens q)] (.sl (ens (eN p q))):=by
 have o:fP p 1048576:=AK s hp d n (oY (Nat.le_add_right _ _) j);have h:fP q 1048576:=AK t f d n (oY (Nat.le_add_left _ _) j);have z:=tU hp;have C:=tU f;have x:∀ k,fP (eN p (q.take k)) 1048576:=λk=>AK (ye8 s (yaq t f k) (f.take k) d) (xU _ hp) d n j;clear n j;refine Sp.vz c.nr λ_=>?_;simp[g.nr];refine bA (Ee p o (by omega)) rfl ?_;simp;refine bA (Ee q h (by omega)) rfl ?_;simp[zG hp,zG f]
 refine b6 (S:=λk:Nat=>aB [(1,.p (.sl (ens q))),(5,.p (.sl (ens (eN p (q.take k))))),(6,.p (.int .i64 k))] []) (I:=λk=>k<=q.length) (m:=λk=>q.length - k) 0
  (aA.to [1,5,6] [] (by simp[eN])) (by omega) ?_
 rintro k G R y J F;have u:=aZ k;simp[g.vi,aB];refine⟨λi=>?_,λi=>F _ _ ?_⟩
 .refine bK i ?_;have E:=xU (q.take k) hp;have H:=tU E;refine bA (KO (eN p (q.take k)) q[k] (x k) (by omega) (h _ (bU i)) (aF.b0.1 (f k i).1).2.1) rfl ?_;simp[u];exact y (k+1) _ (aA.to [1,5,6] [] (by simp[V3 i])) (by omega) (by omega)
 .have:k=q.length:=by omega
  subst this;simp
def Ex.add(x y:Ex):Ex:=⟨x.a+y.a,x.b+y.b,x.c+y.c⟩
def gM(m:aF)(q:List aF)(o:List aF):List aF:=q.foldl (λo d=>fS o (m.e.add d.e) (m.bE.v*d.bE.v)) o
def gE(p q:List aF):List aF:=p.foldl (λo m=>gM m q o) []
theorem V7{m:aF}{o q:List aF}{k:Nat}(h:k<q.length):gM m (q.take (k+1)) o=fS (gM m (q.take k) o) (m.e.add q[k].e) (m.bE.v*q[k].bE.v):=by unfold gM;rw[ed h,z8];rfl
theorem V5{p q:List aF}{k:Nat}(h:k<p.length):gE (p.take (k+1)) q=gM p[k] q (gE (p.take k) q):=by unfold gE;rw[ed h,z8];rfl
theorem Ec{m:aF}(q:List aF){o:List aF}(h:bS o):bS (gM m q o):=by
 induction q generalizing o with
 | nil=>exact h
 | cons x q d=>exact d (LC _ _ h)
theorem AX(p q:List aF):bS (gE p q):=by
 suffices ∀ o,bS o->bS (p.foldl (λo m=>gM m q o) o) from this [] D1
 induction p with
 | nil=>exact λo h=>h
 | cons x p d=>exact λo h=>d _ (Ec q h)
theorem KN{D d B f C:Nat}{m:aF}{q o:List aF}(k:qb D B m.bE.v)(i:∀ x∈q,qb d f x.bE.v)(h:lU (D*d) C o)(j:D*d≠0):lU (D*d) (C+q.length*(B*f)) (gM m q o):=by
 induction q generalizing o C with
 | nil=>simpa[gM]using h
 | cons x q r =>
  have:=r (λy n=>i y (by simp[n])) (SG h (Up k (i x (by simp))) j (m.e.add x.e));intro e;refine BL (this e) ?_;simp[sT];omega
theorem KK{D d B f:Nat}{p q:List aF}(hp:∀ x∈p,qb D B x.bE.v)(j:∀ x∈q,qb d f x.bE.v)(i:D*d≠0):lU (D*d) (p.length*(q.length*(B*f))) (gE p q):=by
 suffices ∀ o C,lU (D*d) C o->lU (D*d) (C+p.length*(q.length*(B*f))) (p.foldl (λo m=>gM m q o) o) by have:=this [] 0 (SF _);rw[sG]at this;exact this
 induction p with
 | nil=>intro o C h;simpa using h
 | cons x p n =>
  intro o C h;have:=n (λy k=>hp y (by simp[k])) _ _ (KN (hp x (by simp)) j h i);intro e;refine BL (this e) ?_;simp[sT];omega
def Eb{D B:Nat}{p:List aF}(h:lU D B p)(hp:bS p):∀ x∈p,qb D B x.bE.v:=λx d=>by rw[<- Hu hp d];exact h _
def yf2(p q:List aF)(D G B J:Nat)(hp:bS p)(H:bS q)(h1:lU D B p)(h2:lU G J q)(M:D≠0)(E:G≠0)(hD:D*G<4294967296^1048576)
  (hB:46656*(B*J)<4294967296^1048576) (hs:fP p 524288) (u:fP q 524288) :
  zS 84 [.sl (ens p),.sl (ens q)] (.sl (ens (gE p q))):=by
 have ad:=tU hp;have U:=tU H;have W:=Eb h1 hp;have X:=Eb h2 H;have s:D*G≠0:=yr2 M E;have Q:∀ x∈p,∀ y∈q,(cR (x.bE.v*y.bE.v)).sm 1048576:=λx r y hy=>(QG (hs x r) (u y hy) (by omega)).mono (by omega);have hb:∀ i k,(h:i<p.length)->fP (gM p[i] (q.take k) (gE (p.take i) q)) 1048576:=λi k h=>by
  have Y:=KN (m:=p[i]) (q:=q.take k) (W _ (bU h)) (λx r=>X x (iC r)) (KK (p:=p.take i) (λx r=>W x (iC r)) X s) s;refine AK Y (Ec _ (AX _ _)) s hD (oY ?_ hB);have h4:(p.take i).length+1<=216:=by simp;omega
  have h5:(q.take k).length<=216:=by simp;omega
  generalize B*J=C at *
  calc (p.take i).length*(q.length*C)+(q.take k).length*C<=(p.take i).length*(216*C)+1*(216*C):=Nat.add_le_add (Aa _ (jU _ U)) (by rw[Nat.one_mul];exact jU _ h5)
   _=((p.take i).length+1)*(216*C):=by rw[sT]
   _<=216*(216*C):=jU _ h4
   _=46656*C:=by omega
 clear hD hB;refine Sp.vz c.nj λ_=>?_;simp[g.nj];refine bA (Ee p (hs.mono (by omega)) (by omega)) rfl ?_;simp;refine bA (Ee q (u.mono (by omega)) (by omega)) rfl ?_;simp[zG hp,zG H]
 refine b6 (S:=λi:Nat=>aB [(0,.p (.sl (ens p))),(1,.p (.sl (ens q))),(5,.p (.sl (ens (gE (p.take i) q)))),(6,.p (.int .i64 i))] []) (I:=λi=>i<=p.length) (m:=λi=>p.length - i) 0
  ((aA.freeze (t:=5) rfl).trans (aA.to [0,1,5,6] [] (by simp[gE]))) (by omega) ?_
 rintro i Y R hn hr r;have e1:=aZ i;simp[g.vg,aB];refine⟨λn=>?_,λn=>r _ _ ?_⟩;rotate_left
 .have:i=p.length:=by omega
  subst this;simp
 clear r hr
 refine b6 (S:=λk:Nat=>aB [(0,.p (.sl (ens p))),(1,.p (.sl (ens q))),(5,.p (.sl (ens (gM p[i] (q.take k) (gE (p.take i) q))))),(6,.p (.int .i64 i)),(7,.p (.int .i64 k))] []) (I:=λk=>k<=q.length) (m:=λk=>q.length - k) 0
  (aA.to [0,1,5,6,7] [] (by simp[gM])) (by omega) ?_
 rintro k h4 R2 O V F;have e2:=aZ k;simp[g.vf,aB];refine⟨λo=>?_,λo=>F _ _ ?_⟩;rotate_left
 .have:k=q.length:=by omega
  subst this;simp[e1];exact hn (i+1) _ (aA.to [0,1,5,6] [] (by simp[V5 n])) (by omega) (by omega)
 clear F V hn;refine bK n ?_;refine bK o ?_;refine bA (KB p[i].bE q[k].bE ((hs _ (bU n)).mono (by omega)) ((u _ (bU o)).mono (by omega))) rfl ?_;simp;have z:∀ {e:Ex},e.ok=true->(-100<e.a/\e.a<100)/\(-100<e.b/\e.b<100) /\ -100<e.c/\e.c<100:=λh=>by rw[Ex.b0]at h;omega
 have o1:=z (aF.b0.1 (hp i n).1).1;have o2:=z (aF.b0.1 (H k o).1).1;have ea:IntKind.i64.wrap (p[i].e.a+q[k].e.a)=p[i].e.a+q[k].e.a:=cT;have eb:IntKind.i64.wrap (p[i].e.b+q[k].e.b)=p[i].e.b+q[k].e.b:=cT;have ec:IntKind.i64.wrap (p[i].e.c+q[k].e.c)=p[i].e.c+q[k].e.c:=cT;refine jT λL d j f=>?_;simp[g.qw];refine bK n ?_;refine bK o ?_;simp[ea];refine d _ ?_;clear d f j;refine jT λL d j f=>?_;simp[g.qw];refine bK n ?_;refine bK o ?_;simp[eb];refine d _ ?_;clear d f j;refine jT λL d j f=>?_;simp[g.qw];refine bK n ?_;refine bK o ?_;simp[ec];refine d _ ?_;clear d f j;refine jT λL d j f=>?_;simp[g.qw];refine f _ _ ?_;clear d f j;simp;have hv:=Ec (m:=p[i]) (q.take k) (AX (p.take i) q);have hl:=tU hv;refine bA (KO (gM p[i] (q.take k) (gE (p.take i) q)) ⟨p[i].e.add q[k].e,cR (p[i].bE.v*q[k].bE.v)⟩ (hb i k n) (by omega) (Q _ (bU n) _ (bU o)) (vD _)) rfl ?_;simp[e2];exact O (k+1) _ (aA.to [0,1,5,6,7] [] (by simp[V7 o,kW])) (by omega) (by omega)
def Vr(x:aT)(d:x.sm 1048576):zS 60 [enc x] (.sl (ens (fS [] ⟨0,0,0⟩ x.v))):=by refine Sp.vz c.m8 λ_=>?_;simp[g.m8];refine bA (zV x (d.mono (by omega))) rfl ?_;simp;have:=KO [] ⟨⟨0,0,0⟩,cR x.v⟩ (by intro m f;simp at f) (by simp) (Uz d) (vD _);rw[kW]at this;refine bA this rfl ?_;simp
def yd(q:Rat):List aF:=fS [] ⟨0,0,0⟩ q
def YS(q:Rat):bS (yd q):=LC _ _ D1
def WM(p q:List aF)(hp:fP p 1048576)(L:p.length<=1073741824):zS 89 [.sl (ens p),.sl (ens q)] (.bool (decide (p=q))):=by
 refine Sp.vz c.nq λ_=>?_;simp[g.nq];refine⟨λh=>?_,λh=>λF=>h (by rw[F])⟩;have o:p.length=q.length:=by omega
 refine b6 (S:=λk:Nat=>aB [(0,.p (.sl (ens p))),(1,.p (.sl (ens q))),(5,.p (.int .i64 k))] []) (I:=λk=>k<=p.length/\p.take k=q.take k) (m:=λk=>p.length - k) 0
  (aA.to [0,1,5] [] (by simp)) ⟨by omega,by simp⟩ ?_
 rintro k ⟨J,r⟩ R G u H;have z:=aZ k;simp[g.vh,aB];refine⟨λn=>?_,λn=>H _ _ ?_⟩
 .have f:k<q.length:=by omega
  have i:p[k]≠q[k]->p≠q:=λh C=>by subst C;exact h rfl
  refine bK n ?_;refine bK f ?_;refine⟨λd=>u _ ?_,λd s t=>?_⟩
  .have:p≠q:=i λh=>by rw[h]at d;simp at d
   simp[this]
  refine bK n ?_;refine bK f ?_;refine bA (wF p[k].bE q[k].bE ((hp _ (bU n)).mono (by omega))) rfl ?_;by_cases j:p[k].bE=q[k].bE
  .simp[j,z];have D:p[k]=q[k]:=by
    have:p[k].e=q[k].e:=by generalize p[k].e=x at *;generalize q[k].e=y at *;cases x;cases y;simp at d s t;simp[d,s,t]
    generalize p[k]=x at *;generalize q[k]=y at *;cases x;cases y;simp at this j;simp[this,j]
   exact G (k+1) _ (aA.to [0,1,5] [] (by simp)) ⟨by omega,by rw[ed n,ed f,r,D]⟩ (by omega)
  .have E:p≠q:=i λh=>j (by rw[h]);simp[j];exact u _ (by simp[E])
 .have d:p=q:=by rw[<- List.take_length (l:=p),<- List.take_length (l:=q),<- o,show p.length=k by omega];exact r
  simp[d]
inductive GW where
 | mk (q:aT) (cost:Int) (inf:Bool) (set:UInt64) (aR:List aF) (parts:List GW)
namespace GW
def q:GW->aT|mk q _ _ _ _ _=>q
def cost:GW->Int|mk _ c _ _ _ _=>c
def inf:GW->Bool|mk _ _ i _ _ _=>i
def set:GW->UInt64|mk _ _ _ s _ _=>s
def aR:GW->List aF|mk _ _ _ _ p _=>p
def parts:GW->List GW|mk _ _ _ _ _ ps=>ps
mutual
def en:GW->PV
 | mk q c i s p d=>.agg [.bool q.neg,.sl (ens q.num),.sl (ens q.den),.int .i64 c,.bool i,.int .u64 s.toNat,.sl (ens p),.sl (yZ d)]
def yZ:List GW->List PV
 | []=>[]
 | w::d=>en w::yZ d
end
end GW
instance:Enc GW:=⟨GW.en,8,by decide,λw=>by cases w;rfl⟩
theorem ygq(ps:List GW):GW.yZ ps=ens ps:=by
 induction ps with
 | nil=>simp[-gW,GW.yZ,ens]
 | cons w ps d=>simp[-gW,GW.yZ,ens,d];rfl
@[simp] theorem yon(w:GW):enc w=.agg [.bool w.q.neg,.sl (ens w.q.num),.sl (ens w.q.den),.int .i64 w.cost,.bool w.inf,.int .u64 w.set.toNat,.sl (ens w.aR),.sl (ens w.parts)]:=by cases w;show GW.en _=_;simp[GW.en,ygq];simp[GW.q,GW.cost,GW.inf,GW.set,GW.aR,GW.parts]
@[simp] theorem ynd:Enc.sz GW=8:=rfl
def GW.ext{v w:GW}(d:v.q=w.q)(f:v.cost=w.cost)(h3:v.inf=w.inf)(h:v.set=w.set)(i:v.aR=w.aR)(j:v.parts=w.parts):v=w:=by cases v;cases w;simp[GW.q,GW.cost,GW.inf,GW.set,GW.aR,GW.parts]at *;simp[*]
noncomputable instance:DecidableEq GW:=λ_ _=>Classical.propDecidable _
structure aC where
 kind:Int
 parts:List Int
 deriving DecidableEq
instance:Enc aC:=⟨λr=>.agg [.int .i64 r.kind,.sl (ens r.parts)],2,by decide,λ_=>rfl⟩
@[simp] theorem ybz(r:aC):enc r=.agg [.int .i64 r.kind,.sl (ens r.parts)]:=rfl
@[simp] theorem yhn:Enc.sz aC=2:=rfl
def aC.ok(r:aC):Bool:=if r.kind=6 then decide (2<=r.parts.length/\r.parts.length<=3/\∀ k∈r.parts,1<=k/\k<=5)else decide (1<=r.kind/\r.kind<=5/\r.parts=[])
def oG(r:aC):zS 59 [enc r] (.bool r.ok):=by
 refine Sp.vz c.bf λ_=>?_;simp[g.bf];refine⟨λd=>⟨λh=>?_,λh=>⟨λn=>?_,λn=>?_⟩⟩,λd=>⟨λh=>⟨λn=>?_,λn=>?_⟩,λh=>?_⟩⟩
 .simp[aC.ok,d];intro j;omega
 .simp[aC.ok,d];intro j D;omega
 rotate_left
 .simp[aC.ok,d,h,n]
 .simp[aC.ok,d];intro j;omega
 .simp[aC.ok,d];intro j;omega
 refine b6 (S:=λk:Nat=>aB [(1,.ptr 1 0 0 0),(3,.p (.int .i64 k))] [(1,⟨2,[.p (enc r)]⟩)]) (I:=λk=>k<=r.parts.length/\∀ i,(h:i<r.parts.length)->i<k->1<=r.parts[i]/\r.parts[i]<=5) (m:=λk=>r.parts.length - k) 0
  (aA.to [1,3] [((1,0),1)] (by simp)) ⟨by omega,λi h J=>by omega⟩ ?_
 rintro k ⟨L,u⟩ R H z t;have C:=aZ k;simp[g.vc,aB];refine⟨λo=>?_,λo=>t _ _ ?_⟩
 .have f:¬ (1<=r.parts[k]/\r.parts[k]<=5)->r.ok=false:=λG=>by simp only[aC.ok,aX d,decide_eq_false_iff_not];exact λj=>G (j.2.2 _ (bU o))
  refine bK o ?_;refine⟨λE=>z _ ?_,λE=>?_⟩
  .simp[f (by omega)]
  refine bK o ?_;simp[C];refine⟨λF=>z _ ?_,λF=>H (k+1) _ (aA.to [1,3] [((1,0),1)] (by simp)) ⟨by omega,λi h y=>?_⟩ (by omega)⟩
  .simp[f (by omega)]
  .by_cases s:i<k
   .exact u i h s
   .have:i=k:=by omega
    subst this;omega
 .have:r.ok=true:=by simp only[aC.ok,aX d,decide_eq_true_eq];refine⟨by omega,by omega,λx t=>?_⟩;obtain⟨i,y,rfl⟩:=Jt t;exact u i y (by omega)
  simp[this]
def OS(r s:aC):zS 37 [enc r,enc s] (.bool (decide (r=s))):=by
 refine Sp.vz c.jh λo=>?_;simp[g.jh];refine⟨λt=>⟨λx=>?_,λx=>λh=>x (by rw[h])⟩,λt h=>t (by rw[h])⟩;have j:r.parts.length=s.parts.length:=by omega
 have n:r.parts.length<=maxLen:=by simp only[ybz,rV,nY]at o;simpa[Mt]using o.1.2.1.1
 unfold maxLen at n
 refine b6 (S:=λk:Nat=>aB [(2,.ptr 1 0 0 0),(3,.ptr 2 0 0 0),(5,.p (.int .i64 k))] [(1,⟨2,[.p (enc r)]⟩),(2,⟨2,[.p (enc s)]⟩)]) (I:=λk=>k<=r.parts.length/\r.parts.take k=s.parts.take k) (m:=λk=>r.parts.length - k) 0
  (aA.to [2,3,5] [((2,0),1),((3,0),2)] (by simp)) ⟨by omega,by simp⟩ ?_
 rintro k ⟨E,u⟩ R z C D;simp[g.uy,aB];refine⟨λd=>?_,λd=>D _ _ ?_⟩
 .have i:k<s.parts.length:=by omega
  have y:=aZ k;refine bK d ?_;refine bK i ?_;simp[y];refine⟨λf=>?_,λf=>?_⟩
  .exact z (k+1) _ (aA.to [2,3,5] [((1,0),1),((2,0),2)] (by simp)) ⟨by omega,by rw[ed d,ed i,u,f]⟩ (by omega)
  .refine C _ ?_;have:r≠s:=λh=>f (by subst h;rfl);simp[this]
 .have f:r=s:=by
   have:r.parts=s.parts:=by rw[<- List.take_length (l:=r.parts),<- List.take_length (l:=s.parts),<- j,show r.parts.length=k by omega];exact u
   cases r;cases s;simp at t this;simp[t,this]
  simp[f]
inductive GW.sm (n:Nat):GW->Prop
 | mk {q:aT} {c:Int} {i:Bool} {s:UInt64} {p:List aF} {ps:List GW}:q.sm n->fP p n->p.length<=n->ps.length<=n->(∀ w∈ps,GW.sm n w)->GW.sm n (.mk q c i s p ps)
def GW.sm.q{n:Nat}{w:GW}(h:w.sm n):w.q.sm n:=by cases h;assumption
def GW.sm.aR{n:Nat}{w:GW}(h:w.sm n):fP w.aR n:=by cases h;assumption
def GW.sm.len{n:Nat}{w:GW}(h:w.sm n):w.aR.length<=n:=by cases h;assumption
def GW.sm.uU{n:Nat}{w:GW}(h:w.sm n):w.parts.length<=n:=by cases h;assumption
def GW.sm.parts{n:Nat}{w:GW}(h:w.sm n):∀ x∈w.parts,x.sm n:=by cases h;assumption
def GW.sm.ind{n:Nat}{M:GW->Prop}(h:∀ v,v.sm n->(∀ w∈v.parts,M w)->M v):∀ v,v.sm n->M v:=by
 intro v j
 induction j with|@mk q c i s p ps hq hp d f k m=>exact h _ (.mk hq hp d f k) m
def Iy(v:GW)(j:v.sm 1048576):∀ w:GW,zS 40 [enc v,enc w] (.bool (decide (v=w))):=by
 revert v;refine GW.sm.ind λv j H w=>?_;refine Sp.vz c.cj λE=>?_;simp[g.cj];refine bA (wF v.q w.q (j.q.mono (by omega))) rfl ?_;simp;refine⟨λr=>⟨λs=>⟨λt=>⟨λn=>?_,λn h=>n (by rw[h])⟩,λt h=>t (by rw[h])⟩,λs h=>s (by rw[h])⟩,λr h=>r (by rw[h])⟩;have n:v.set=w.set:=UInt64.toNat_inj.1 (by omega);refine bA (WM v.aR w.aR j.aR (by have:=j.len;omega)) rfl ?_;simp;refine⟨λu=>⟨λx=>?_,λx h=>x (by rw[h])⟩,λu h=>u (by rw[h])⟩;have i:v.parts.length=w.parts.length:=by omega
 have z:=j.uU
 refine b6 (S:=λk:Nat=>aB [(2,.ptr 1 0 0 0),(3,.ptr 2 0 0 0),(5,.p (.int .i64 k))] [(1,⟨8,[.p (enc v)]⟩),(2,⟨8,[.p (enc w)]⟩)]) (I:=λk=>k<=v.parts.length/\v.parts.take k=w.parts.take k) (m:=λk=>v.parts.length - k) 0
  (aA.to [2,3,5] [((2,0),1),((3,0),2)] (by simp)) ⟨by omega,by simp⟩ ?_
 rintro k ⟨J,y⟩ R D F G;have C:=aZ k;simp[g.u3,aB];refine⟨λo=>?_,λo=>G _ _ ?_⟩
 .have f:k<w.parts.length:=by omega
  refine bK o ?_;refine bK f ?_;refine bA (H _ (bU o) w.parts[k]) ?_ ?_
  .simp
  simp[C];refine⟨λd=>?_,λd=>?_⟩
  .exact D (k+1) _ (aA.to [2,3,5] [((1,0),1),((2,0),2)] (by simp)) ⟨by omega,by rw[ed o,ed f,y,d]⟩ (by omega)
  .refine F _ ?_;have:v≠w:=λh=>d (by subst h;rfl);simp[this]
 .have d:v=w:=by refine GW.ext r s t n u ?_;rw[<- List.take_length (l:=v.parts),<- List.take_length (l:=w.parts),<- i,show v.parts.length=k by omega];exact y
  simp[d]
def FZ(r:aC)(i:Nat)(h:i<r.parts.length):zS 61 [enc r,.int .i64 i] (enc (⟨r.parts[i],[]⟩:aC)):=by refine Sp.vz c.cq λ_=>?_;simp[g.cq];refine bK h ?_;simp
end Go.Ab
namespace Go.Ab
section
variable {α : Type} (key : α -> List Int) (up : α -> α -> α) (nw : α -> α)
def gS(d:List α)(y : α):List α :=
 match d with
 | []=>[nw y]
 | [z]=>if key z=key y then[up z y]else[z,nw y]
 | z::r=>z::gS r y
def eU(l:List α):List α := l.foldl (gS key up nw) []
def eJ(s:List α)(x : α):List α :=
 match s with
 | []=>[x]
 | z::r=>if key x<key z then x::z::r else z::eJ r x
def eX(d:List α)(x : α):List α :=
 match d with
 | []=>[nw x]
 | z::r=>if key z<key x then z::eX r x else if key z=key x then up z x::r else nw x::z::r
def bW(l:List α):List α := l.foldl (eJ key) []
def nZ(l:List α):List α := l.foldl (eX key up nw) []
variable {key up nw} (uv:∀ a b,key (up a b)=key a) (rY:∀ a,key (nw a)=key a)
def BO(a b:List Int):a<b\/a=b\/b<a:=by
 by_cases h:a<b
 .exact .inl h
 .by_cases d:b<a
  .exact .inr (.inr d)
  .exact .inr (.inl (List.le_antisymm (List.not_lt.1 d) (List.not_lt.1 h)))
def PA{a b c:List Int}(h:¬ b<a)(k:b<c):a<c:=by
 obtain d|d|d:=BO a b
 .exact Ca d k
 .rw[d];exact k
 .exact absurd d h
def Ep{a b c:List Int}(h:a<b)(k:¬ c<b):a<c:=by
 obtain d|d|d:=BO b c
 .exact Ca h d
 .rw[<- d];exact h
 .exact absurd d k
theorem Zs(d:List α)(y : α):gS key up nw d y≠[]:=by
 match d with
 | []=>simp[gS]
 | [z]=>simp only[gS];split<;>simp
 | z::w::r=>simp[gS]
theorem D0(z : α){r:List α}(y : α)(h:r≠[]):gS key up nw (z::r) y=z::gS key up nw r y:=by
 match r with
 | []=>exact absurd rfl h
 | w::r=>rfl
theorem Lu(o:List α){r:List α}(y : α)(h:r≠[]):gS key up nw (o++r) y=o++gS key up nw r y:=by
 induction o with
 | nil=>rfl
 | cons z o d=>rw[xX,D0 z y (by simp[h]),d];rfl
theorem TI(o:List α):∀ (l:List α) {r:List α},r≠[]->l.foldl (gS key up nw) (o++r)=o++l.foldl (gS key up nw) r
 | [],r,_=>rfl
 | y::l,r,h=>by simp only[C8];rw[Lu o y h];exact TI o l (Zs r y)
include uv rY in
theorem Lv(d:List α)(y : α):∃ o z,gS key up nw d y=o++[z]/\key z=key y:=by
 match d with
 | []=>exact⟨[],nw y,rfl,rY y⟩
 | [z] =>
  simp only[gS];split
  .rename_i h;exact⟨[],up z y,rfl,by rw[uv,h]⟩
  .exact⟨[z],nw y,rfl,rY y⟩
 | z::w::r =>
  obtain⟨o,u,f,i⟩:=Lv (w::r) y;exact⟨z::o,u,by rw[D0 z y (by simp),f];rfl,i⟩
def CI{o:List α}{z y : α}(h:key z≠key y):gS key up nw (o++[z]) y=o++[z,nw y]:=by rw[Lu o y (by simp)];simp[gS,h]
def FF{o:List α}{z y : α}(h:key z=key y):gS key up nw (o++[z]) y=o++[up z y]:=by rw[Lu o y (by simp)];simp[gS,h]
theorem TJ{o:List α}{z : α}{B:List α}(h:∀ b∈B,key z≠key b):B.foldl (gS key up nw) (o++[z])=o++[z]++eU key up nw B:=by
 cases B with
 | nil=>simp[eU]
 | cons b B =>
  simp only[C8,eU];rw[CI (h b (by simp))];have:o++[z,nw b]=(o++[z])++[nw b]:=by simp
  rw[this,TI (o++[z]) B (by simp)];rfl
def jQ(key : α -> List Int)(l:List α):Prop:=l.Pairwise λa b=>¬ key b<key a
def eH(key : α -> List Int)(l:List α):Prop:=l.Pairwise λa b=>key a<key b
def Lt(l:List α)(y : α):eU key up nw (l++[y])=gS key up nw (eU key up nw l) y:=by simp[eU,z8]
include uv rY in
theorem Ez:∀ (n:Nat) (l:List α),l.length=n->jQ key l->eH key (eU key up nw l)/\(∀ z∈eU key up nw l,∃ y∈l,key z=key y)/\(l=[]\/∃ o z o' y,eU key up nw l=o++[z]/\l=o'++[y]/\key z=key y)
 | 0,l,C,_=>by
  have:l=[]:=q9 C;subst this;exact⟨by simp[eU,eH],by simp[eU],.inl rfl⟩
 | n+1,l,C,J=>by
  obtain⟨f,y,rfl⟩:∃ f y,l=f++[y]:=⟨l.dropLast,l.getLast (by intro h;simp[h]at C),(List.dropLast_concat_getLast _).symm⟩;have D:f.length=n:=by simpa using C
  have F:jQ key f:=(tY.1 J).1;have E:∀ a∈f,¬ key y<key a:=λa k=>(tY.1 J).2.2 a k y (by simp);obtain⟨L,G,M⟩:=Ez n f D F;rw[Lt];obtain⟨o,u,Q,R⟩:=Lv uv rY (eU key up nw f) y;refine⟨?_,?_,.inr ⟨o,u,f,y,Q,rfl,R⟩⟩
  .obtain rfl|⟨S,z,o',O,j,H,I⟩:=M
   .simp[eU,gS,eH]
   .rw[j]at L ⊢;have g:=tY.1 L;by_cases i:key z=key y
    .rw[FF i];refine tY.2 ⟨g.1,by simp,λa k b r=>?_⟩;simp only[iT]at r;subst r;rw[uv];exact g.2.2 a k z (by simp)
    .rw[CI i];have s:key z<key y:=by
      obtain h|h|h:=BO (key z) (key y)
      .exact h
      .exact absurd h i
      .rw[I]at h;exact absurd h (E O (by rw[H];simp))
     refine tY.2 ⟨g.1,by simp[rY,s],λa k b r=>?_⟩;have m:=g.2.2 a k z (by simp);simp only[cI,sF,or_false]at r;obtain rfl|rfl:=r
     .exact m
     .rw[rY];exact Ca m s
  .intro z d;obtain rfl|⟨S,U,o',O,j,H,I⟩:=M
   .simp[eU,gS]at d;subst d;exact⟨y,by simp,rY y⟩
   .rw[j]at d;by_cases i:key U=key y
    .rw[FF i]at d;obtain h|h:=dN.1 d
     .obtain⟨q,t,x⟩:=G z (by rw[j];simp[h]);exact⟨q,by simp[t],x⟩
     .simp at h;subst h;exact⟨y,by simp,by rw[uv,i]⟩
    .rw[CI i]at d;simp only[dN,cI,sF,or_false]at d;obtain h|rfl|rfl:=d
     .obtain⟨q,t,x⟩:=G z (by rw[j];simp[h]);exact⟨q,by simp[t],x⟩
     .obtain⟨q,t,x⟩:=G z (by rw[j];simp);exact⟨q,by simp[t],x⟩
     .exact⟨y,by simp,rY y⟩
include rY in
theorem LI{x : α}{B:List α}(j:∀ b∈B,key x<key b):∀ (A:List α),eH key A->(∀ a∈A,¬ key x<key a)->eX key up nw (A++B) x=gS key up nw A x++B
 | [],_,_=>by
  cases B with
  | nil=>rfl
  | cons b B =>
   have h:=j b (by simp);have s:¬ key b<key x:=List.lt_asymm h;have i:key b≠key x:=λe=>by rw[e]at h;exact pU _ h
   simp[eX,gS,s,i]
 | [z],n,d=>by
  obtain h|h|h:=BO (key z) (key x)
  .have k:key z≠key x:=λe=>by rw[e]at h;exact pU _ h
   have:=LI j [] (by simp[eH]) (by simp);simp only[uP,gS]at this;simp[eX,gS,h,k,this]
  .have i:¬ key x<key x:=pU _;simp[eX,gS,h,i]
  .exact absurd h (d z (by simp))
 | z::w::r,n,d=>by have f:=mS.1 n;have m:key z<key x:=Ep (f.1 w (by simp)) (d w (by simp));have o:=LI j (w::r) f.2 (λa t=>d a (by simp[t]));rw[D0 z x (by simp)];simp only[xX,eX,m,cH]at o ⊢;rw[<- o]
theorem My(x : α):∀ (s:List α),jQ key s->∃ A B,s=A++B/\eJ key s x=A++x::B/\(∀ a∈A,¬ key x<key a)/\(∀ b∈B,key x<key b)
 | [],_=>⟨[],[],rfl,rfl,by simp,by simp⟩
 | z::r,o=>by
  have d:=mS.1 o;by_cases h:key x<key z
  .refine⟨[],z::r,rfl,by simp[eJ,h],by simp,λb i=>?_⟩;obtain rfl|i:=cI.1 i
   .exact h
   .exact Ep h (d.1 b i)
  .obtain⟨A,B,j,k,m,n⟩:=My x r d.2;exact⟨z::A,B,by rw[j];rfl,by simp[eJ,h,k],λa f=>by
    obtain rfl|f:=cI.1 f
    .exact h
    .exact m a f,n⟩
theorem Ri{x : α}{s:List α}(hs:jQ key s):jQ key (eJ key s x):=by
 obtain⟨A,B,h,i,j,k⟩:=My x s hs;rw[i];rw[h]at hs;have g:=tY.1 hs;refine tY.2 ⟨g.1,mS.2 ⟨λb d=>List.lt_asymm (k b d),g.2.1⟩,λa f b d=>?_⟩;obtain rfl|d:=cI.1 d
 .exact j a f
 .exact g.2.2 a f b d
include uv rY in
theorem ybb{x : α}{s:List α}(hs:jQ key s):eU key up nw (eJ key s x)=eX key up nw (eU key up nw s) x:=by
 obtain⟨A,B,I,J,r,j⟩:=My x s hs;subst I;have g:=tY.1 hs;obtain⟨t,C,D⟩:=Ez uv rY A.length A rfl g.1;obtain⟨M,E,O⟩:=Ez uv rY B.length B rfl g.2.1;have k:∀ b∈eU key up nw B,key x<key b:=λb d=>by obtain⟨y,m,n⟩:=E b d;rw[n];exact j y m
 have F:eU key up nw (A++B)=eU key up nw A++eU key up nw B:=by
  obtain rfl|⟨o,z,Q,y,h,i,H⟩:=D
  .simp[eU]
  .have:eU key up nw (A++B)=B.foldl (gS key up nw) (eU key up nw A):=by simp[eU,z8]
   rw[this,h];refine TJ λb d=>?_;have f:key z<key b:=by rw[H];exact PA (r y (by rw[i];simp)) (j b d)
   intro e;rw[e]at f;exact pU _ f
 have G:eU key up nw (A++x::B)=gS key up nw (eU key up nw A) x++eU key up nw B:=by
  have:eU key up nw (A++x::B)=B.foldl (gS key up nw) (gS key up nw (eU key up nw A) x):=by simp[eU,z8]
  rw[this];obtain⟨o,u,h,i⟩:=Lv uv rY (eU key up nw A) x;rw[h];refine TJ λb d=>?_;intro e;have:=j b d;rw[<- i,e]at this;exact pU _ this
 rw[J,F,G];exact(LI rY k _ t (λa L=>by
  obtain⟨y,m,n⟩:=C a L;rw[n];exact r y m)).symm
include uv rY in
theorem KA(l:List α):eU key up nw (bW key l)=nZ key up nw l/\jQ key (bW key l):=by
 have d:∀ (l s:List α),jQ key s->eU key up nw (l.foldl (eJ key) s)=l.foldl (eX key up nw) (eU key up nw s)/\jQ key (l.foldl (eJ key) s):=by
  intro l
  induction l with
  | nil=>intro s f;exact⟨rfl,f⟩
  | cons x l h =>
   intro s f;simp only[C8];rw[<- ybb uv rY f];exact h _ (Ri f)
 exact d l [] (by simp[jQ])
end
def eW:List Int->List Int->Int
 | x::d,y::f=>if x<y then -1 else if y<x then 1 else eW d f
 | _,_=>0
theorem CG:∀ {a b:List Int},a.length=b.length->(eW a b<0 ↔ a<b)
 | [],[],_=>by simp[eW]
 | x::j,y::k,h=>by
  have i:=CG (a:=j) (b:=k) (by simpa using h);simp only[eW,List.cons_lt_cons_iff];by_cases d:x<y
  .simp[d]
  .by_cases f:y<x
   .simp[d,f];omega
   .have:x=y:=by omega
    subst this;simp[i]
theorem CF:∀ {a b:List Int},a.length=b.length->(eW a b=0 ↔ a=b)
 | [],[],_=>by simp[eW]
 | x::j,y::k,h=>by
  have i:=CF (a:=j) (b:=k) (by simpa using h);simp only[eW,List.cons.injEq];by_cases d:x<y
  .simp[d];omega
  .by_cases f:y<x
   .simp[d,f];omega
   .have:x=y:=by omega
    subst this;simp[i]
def eP(x y:Int):Int:=if x<y then -1 else if y<x then 1 else 0
open Enc (enc)
structure aV where
 f:Int
 l:Int
 t:Int
 w:GW
structure aE where
 f:Int
 i:Int
 o:Int
 t:Int
 w:GW
def GW.cl(w:GW):List PV:=[.bool w.q.neg,.sl (ens w.q.num),.sl (ens w.q.den),.int .i64 w.cost,.bool w.inf,.int .u64 w.set.toNat,.sl (ens w.aR),.sl (ens w.parts)]
instance:Enc aV:=⟨λx=>.agg ([.int .i64 x.f,.int .i64 x.l,.int .i64 x.t]++x.w.cl),11,by decide,λ_=>rfl⟩
instance:Enc aE:=⟨λx=>.agg ([.int .i64 x.f,.int .i64 x.i,.int .i64 x.o,.int .i64 x.t]++x.w.cl),12,by decide,λ_=>rfl⟩
@[simp] theorem ynh(x:aV):enc x=.agg [.int .i64 x.f,.int .i64 x.l,.int .i64 x.t,.bool x.w.q.neg,.sl (ens x.w.q.num),.sl (ens x.w.q.den),.int .i64 x.w.cost,.bool x.w.inf,.int .u64 x.w.set.toNat,.sl (ens x.w.aR),.sl (ens x.w.parts)]:=rfl
@[simp] theorem yk5(x:aE):enc x=.agg [.int .i64 x.f,.int .i64 x.i,.int .i64 x.o,.int .i64 x.t,.bool x.w.q.neg,.sl (ens x.w.q.num),.sl (ens x.w.q.den),.int .i64 x.w.cost,.bool x.w.inf,.int .u64 x.w.set.toNat,.sl (ens x.w.aR),.sl (ens x.w.parts)]:=rfl
@[simp] theorem yjz:Enc.sz aV=11:=rfl
@[simp] theorem yhm:Enc.sz aE=12:=rfl
structure aU where
 ring:aC
 sy:Int
 st:Int
 aM:List GW
 fin:List GW
 aD:List aV
structure GTrans where
 ring:aC
 i:Int
 o:Int
 st:Int
 aM:List GW
 fin:List GW
 aD:List aE
instance:Enc aU:=⟨λx=>.agg [.int .i64 x.ring.kind,.sl (ens x.ring.parts),.int .i64 x.sy,.int .i64 x.st,.sl (ens x.aM),.sl (ens x.fin),.sl (ens x.aD)],7,by decide,λ_=>rfl⟩
instance:Enc GTrans:=⟨λx=>.agg [.int .i64 x.ring.kind,.sl (ens x.ring.parts),.int .i64 x.i,.int .i64 x.o,.int .i64 x.st,.sl (ens x.aM),.sl (ens x.fin),.sl (ens x.aD)],8,by decide,λ_=>rfl⟩
@[simp] theorem yla(x:aU):enc x=.agg [.int .i64 x.ring.kind,.sl (ens x.ring.parts),.int .i64 x.sy,.int .i64 x.st,.sl (ens x.aM),.sl (ens x.fin),.sl (ens x.aD)]:=rfl
@[simp] theorem Xh(x:GTrans):enc x=.agg [.int .i64 x.ring.kind,.sl (ens x.ring.parts),.int .i64 x.i,.int .i64 x.o,.int .i64 x.st,.sl (ens x.aM),.sl (ens x.fin),.sl (ens x.aD)]:=rfl
@[simp] theorem yhs:Enc.sz aU=7:=rfl
@[simp] theorem ygr:Enc.sz GTrans=8:=rfl
def aV.key(x:aV):List Int:=[x.f,x.l,x.t]
def aE.key(x:aE):List Int:=[x.f,x.i,x.o,x.t]
end Go.Ab
namespace Go.Ab
open Enc (enc)
attribute [local simp] iJ bP.aY
def Wa(l:List GW)(f:FuncId)(d:List PV)(p:GW->Bool)(u:l.length<=4611686018427387904)(o:∀ x∈l,Sp P f (enc x::d) (.pure (.bool (p x)))) :
  zS 181 [.sl (ens l),.fn f d] (.int .i64 (gN p l)):=by
 refine Sp.vz c.pa λ_=>?_;simp[g.pa]
 refine b6 (S:=λk:Nat=>aB [(0,.p (.sl (ens l))),(1,.p (.fn f d)),(7,.p (.int .i64 l.length)),(8,.p (.int .i64 k))] []) (I:=λk=>k<=l.length/\∀ x∈l.take k,p x=false) (m:=λk=>l.length - k) 0
  (aA.to [0,1,7,8] [] (by simp)) ⟨by omega,by simp⟩ ?_
 rintro k ⟨t,j⟩ R r s h;have n:=aZ k;simp[g.wz,aB];refine⟨λi=>?_,λi=>h _ _ ?_⟩
 .refine bK i ?_
  try simp
  refine bA (o l[k] (bU i)) (kX (by simp) (yn _ _)) ?_;obtain h3|h3:=iK (p l[k])
  .simp[h3];refine s _ ?_;simp[FD i j h3]
  .simp[h3,n];refine r (k+1) _ (aA.to [0,1,7,8] [] (by simp)) ⟨by omega,λx h=>?_⟩ (by omega);rw[ed i]at h;obtain h|h:=dN.1 h
   .exact j x h
   .simp at h;rw[h];exact h3
 .have:k=l.length:=by omega
  subst this;simp[Gj (p:=p) (l:=l) (by simpa using j)]
def RK(l:List GW)(f:FuncId)(d:List PV)(p:GW->Bool)(i:l.length<=4611686018427387904)(h:∀ x∈l,Sp P f (enc x::d) (.pure (.bool (p x)))) :
  zS 142 [.sl (ens l),.fn f d] (.bool (l.any p)):=by
 refine Sp.vz c.j6 λ_=>?_;simp[g.j6];refine bA (Wa l f d p i h) rfl ?_;simp[MO]
def Rx(l:List aV)(f:FuncId)(d:List PV)(p:aV->Bool)(u:l.length<=4611686018427387904)(o:∀ x∈l,Sp P f (enc x::d) (.pure (.bool (p x)))) :
  zS 182 [.sl (ens l),.fn f d] (.int .i64 (gN p l)):=by
 refine Sp.vz c.kn λ_=>?_;simp[g.kn]
 refine b6 (S:=λk:Nat=>aB [(0,.p (.sl (ens l))),(1,.p (.fn f d)),(7,.p (.int .i64 l.length)),(8,.p (.int .i64 k))] []) (I:=λk=>k<=l.length/\∀ x∈l.take k,p x=false) (m:=λk=>l.length - k) 0
  (aA.to [0,1,7,8] [] (by simp)) ⟨by omega,by simp⟩ ?_
 rintro k ⟨t,j⟩ R r s h;have n:=aZ k;simp[g.w5,aB];refine⟨λi=>?_,λi=>h _ _ ?_⟩
 .refine bK i ?_
  try simp
  refine bA (o l[k] (bU i)) (kX (by simp) (yn _ _)) ?_;obtain h3|h3:=iK (p l[k])
  .simp[h3];refine s _ ?_;simp[FD i j h3]
  .simp[h3,n];refine r (k+1) _ (aA.to [0,1,7,8] [] (by simp)) ⟨by omega,λx h=>?_⟩ (by omega);rw[ed i]at h;obtain h|h:=dN.1 h
   .exact j x h
   .simp at h;rw[h];exact h3
 .have:k=l.length:=by omega
  subst this;simp[Gj (p:=p) (l:=l) (by simpa using j)]
def Ve(l:List aV)(f:FuncId)(d:List PV)(p:aV->Bool)(i:l.length<=4611686018427387904)(h:∀ x∈l,Sp P f (enc x::d) (.pure (.bool (p x)))) :
  zS 144 [.sl (ens l),.fn f d] (.bool (l.any p)):=by
 refine Sp.vz c.om λ_=>?_;simp[g.om];refine bA (Rx l f d p i h) rfl ?_;simp[MO]
def VR(l:List aE)(f:FuncId)(d:List PV)(p:aE->Bool)(u:l.length<=4611686018427387904)(o:∀ x∈l,Sp P f (enc x::d) (.pure (.bool (p x)))) :
  zS 127 [.sl (ens l),.fn f d] (.int .i64 (gN p l)):=by
 refine Sp.vz c.oe λ_=>?_;simp[g.oe]
 refine b6 (S:=λk:Nat=>aB [(0,.p (.sl (ens l))),(1,.p (.fn f d)),(7,.p (.int .i64 l.length)),(8,.p (.int .i64 k))] []) (I:=λk=>k<=l.length/\∀ x∈l.take k,p x=false) (m:=λk=>l.length - k) 0
  (aA.to [0,1,7,8] [] (by simp)) ⟨by omega,by simp⟩ ?_
 rintro k ⟨t,j⟩ R r s h;have n:=aZ k;simp[g.wd,aB];refine⟨λi=>?_,λi=>h _ _ ?_⟩
 .refine bK i ?_
  try simp
  refine bA (o l[k] (bU i)) (kX (by simp) (yn _ _)) ?_;obtain h3|h3:=iK (p l[k])
  .simp[h3];refine s _ ?_;simp[FD i j h3]
  .simp[h3,n];refine r (k+1) _ (aA.to [0,1,7,8] [] (by simp)) ⟨by omega,λx h=>?_⟩ (by omega);rw[ed i]at h;obtain h|h:=dN.1 h
   .exact j x h
   .simp at h;rw[h];exact h3
 .have:k=l.length:=by omega
  subst this;simp[Gj (p:=p) (l:=l) (by simpa using j)]
def Wd(l m:List aF)(f:FuncId)(J:l.length<=4611686018427387904)(D:∀ x∈l,∀ y∈m,Sp P f [enc x,enc y] (.pure (.bool (decide (x=y))))) :
  zS 170 [.sl (ens l),.sl (ens m),.fn f []] (.bool (decide (l=m))):=by
 refine Sp.vz c.o6 λ_=>?_;simp[g.o6];refine⟨λh=>?_,λh=>λC=>h (by rw[C])⟩;have i:l.length=m.length:=by omega
 refine b6 (S:=λk:Nat=>aB [(1,.p (.sl (ens m))),(2,.p (.fn f [])),(15,.p (.sl (ens l))),(16,.p (.int .i64 l.length)),(17,.p (.int .i64 k))] []) (I:=λk=>k<=l.length/\l.take k=m.take k) (m:=λk=>l.length - k) 0
  (aA.to [1,2,15,16,17] [] (by simp)) ⟨by omega,by simp⟩ ?_
 rintro k ⟨H,r⟩ R E F G;have s:=aZ k;simp[g.wo,aB];refine⟨λn=>?_,λn=>G _ _ ?_⟩
 .have d:k<m.length:=by omega
  have o:l[k]≠m[k]->l≠m:=λh t=>by subst t;exact h rfl
  refine bK n ?_
  try simp
  refine bK d ?_
  try simp
  refine aW (D l[k] (bU n) m[k] (bU d)) ?_;by_cases j:l[k]=m[k]
  .simp[j,s];exact E (k+1) _ (aA.to [1,2,15,16,17] [] (by simp)) ⟨by omega,by rw[ed n,ed d,r,j]⟩ (by omega)
  .have z:l≠m:=o j;simp[j];exact F _ (by simp[z])
 .have u:l=m:=by rw[<- List.take_length (l:=l),<- List.take_length (l:=m),<- i,show l.length=k by omega];exact r
  simp[u]
def V2(l m:List GW)(f:FuncId)(J:l.length<=4611686018427387904)(D:∀ x∈l,∀ y∈m,Sp P f [enc x,enc y] (.pure (.bool (decide (x=y))))) :
  zS 171 [.sl (ens l),.sl (ens m),.fn f []] (.bool (decide (l=m))):=by
 refine Sp.vz c.o7 λ_=>?_;simp[g.o7];refine⟨λh=>?_,λh=>λC=>h (by rw[C])⟩;have i:l.length=m.length:=by omega
 refine b6 (S:=λk:Nat=>aB [(1,.p (.sl (ens m))),(2,.p (.fn f [])),(15,.p (.sl (ens l))),(16,.p (.int .i64 l.length)),(17,.p (.int .i64 k))] []) (I:=λk=>k<=l.length/\l.take k=m.take k) (m:=λk=>l.length - k) 0
  (aA.to [1,2,15,16,17] [] (by simp)) ⟨by omega,by simp⟩ ?_
 rintro k ⟨H,r⟩ R E F G;have s:=aZ k;simp[g.wq,aB];refine⟨λn=>?_,λn=>G _ _ ?_⟩
 .have d:k<m.length:=by omega
  have o:l[k]≠m[k]->l≠m:=λh t=>by subst t;exact h rfl
  refine bK n ?_
  try simp
  refine bK d ?_
  try simp
  refine aW (D l[k] (bU n) m[k] (bU d)) ?_;by_cases j:l[k]=m[k]
  .simp[j,s];exact E (k+1) _ (aA.to [1,2,15,16,17] [] (by simp)) ⟨by omega,by rw[ed n,ed d,r,j]⟩ (by omega)
  .have z:l≠m:=o j;simp[j];exact F _ (by simp[z])
 .have u:l=m:=by rw[<- List.take_length (l:=l),<- List.take_length (l:=m),<- i,show l.length=k by omega];exact r
  simp[u]
theorem RG(l:List aV)(d:l.length<=2147483648):Sp P 254 [.sl (ens l)] (.fresh 11 (ens l)):=by
 cases l with
 | nil =>
  refine Sp.oO ?_ ?_
  .refine Sp.vz c.dg λ_=>?_;simp[g.dg]
  .refine Sp.vz c.dg λ_=>?_;simp[g.dg,eL]
 | cons x l =>
  refine Sp.vz c.dg λ_=>?_;simp at d;simp[g.dg,eL,d]
theorem VY(l:List aE)(d:l.length<=2147483648):Sp P 71 [.sl (ens l)] (.fresh 12 (ens l)):=by
 cases l with
 | nil =>
  refine Sp.oO ?_ ?_
  .refine Sp.vz c.cr λ_=>?_;simp[g.cr]
  .refine Sp.vz c.cr λ_=>?_;simp[g.cr,eL]
 | cons x l =>
  refine Sp.vz c.cr λ_=>?_;simp at d;simp[g.cr,eL,d]
def To(x:Int):zS 160 [.int .i64 x] (.bool false):=by refine Sp.vz c.ow λ_=>?_;simp[g.ow]
def vZ(x y:Int):zS 120 [.int .i64 x,.int .i64 y] (.int .i64 (eP x y)):=by refine Sp.vz c.dw λ_=>?_;simp[g.dw];refine bA (To x) rfl ?_;simp;refine bA (To y) rfl ?_;simp[eP];refine⟨λ_ _=>by split<;>omega,λ_=>⟨λ_=>by(repeat' split)<;>omega,λ_=>by(repeat' split)<;>omega⟩⟩
def zI:List Int->Int
 | []=>0
 | x::r=>if x=0 then zI r else x
theorem U5{l:List Int}:∀ {k:Nat},(∀ x∈l.take k,x=0)->zI l=zI (l.drop k):=by
 intro k
 induction l generalizing k with
 | nil=>simp
 | cons x l f =>
  cases k with
  | zero=>simp
  | succ k =>
   intro h;have:x=0:=h x (by simp);simp only[zI,this,cH,NF];exact f λy d=>h y (by simp[d])
def K9(l:List Int)(u:l.length<=4611686018427387904):zS 119 [.sl (ens l)] (.int .i64 (zI l)):=by
 refine Sp.vz c.gm λ_=>?_;simp[g.gm]
 refine b6 (S:=λk:Nat=>aB [(3,.p (.int .i64 0)),(6,.p (.sl (ens l))),(7,.p (.int .i64 l.length)),(8,.p (.int .i64 k))] []) (I:=λk=>k<=l.length/\∀ x∈l.take k,x=0) (m:=λk=>l.length - k) 0
  (aA.to [3,6,7,8] [] (by simp)) ⟨by omega,by simp⟩ ?_
 rintro k ⟨t,n⟩ R r s d;have o:=aZ k;have f:=U5 n;simp[g.wa,aB];refine⟨λh=>?_,λh=>d _ _ ?_⟩
 .have j:l.drop k=l[k]::l.drop (k+1):=vJ h;rw[j]at f;refine bK h ?_;simp[o];refine⟨λi=>?_,λi=>?_⟩
  .refine r (k+1) _ (aA.to [3,6,7,8] [] (by simp)) ⟨by omega,λx d=>?_⟩ (by omega);rw[ed h]at d;obtain d|d:=dN.1 d
   .exact n x d
   .simp at d;rw[d];exact i
  .refine s _ ?_;simp[zI,i]at f;simp[f]
 .have:k=l.length:=by omega
  subst this;simp[zI]at f;simp[f]
def Qv(l m:List UInt32)(F:l.length<=4611686018427387904):zS 252 [.sl (ens l),.sl (ens m)] (.bool (decide (l=m))):=by
 refine Sp.vz c.pj λ_=>?_;simp[g.pj];refine⟨λh=>?_,λh=>λy=>h (by rw[y])⟩;have f:l.length=m.length:=by omega
 refine b6 (S:=λk:Nat=>aB [(0,.p (.sl (ens l))),(1,.p (.sl (ens m))),(12,.p (.int .i64 l.length)),(13,.p (.int .i64 k))] []) (I:=λk=>k<=l.length/\l.take k=m.take k) (m:=λk=>l.length - k) 0
  (aA.to [0,1,12,13] [] (by simp)) ⟨by omega,by simp⟩ ?_
 rintro k ⟨E,n⟩ R z C D;have r:=aZ k;simp[g.xc,aB];refine⟨λj=>?_,λj=>D _ _ ?_⟩
 .have d:k<m.length:=by omega
  have i:l[k]≠m[k]->l≠m:=λh s=>by subst s;exact h rfl
  refine bK j ?_;refine bK d ?_;simp[r];refine⟨λo=>?_,λo=>?_⟩
  .have u:l[k]=m[k]:=UInt32.toNat_inj.1 (by omega);exact z (k+1) _ (aA.to [0,1,12,13] [] (by simp)) ⟨by omega,by rw[ed j,ed d,n,u]⟩ (by omega)
  .have x:l≠m:=i λh=>o (by rw[h]);exact C _ (by simp[x])
 .have t:l=m:=by rw[<- List.take_length (l:=l),<- List.take_length (l:=m),<- f,show l.length=k by omega];exact n
  simp[t]
def QJ(x y:aT)(h:x.sm 1073741824):zS 169 [enc x,enc y] (.bool (decide (x=y))):=by
 refine Sp.vz c.ke λ_=>?_;simp[g.ke];have key:∀ (x y:aT),x=y ↔ x.neg=y.neg/\x.num=y.num/\x.den=y.den:=by intro x y;cases x;cases y;simp
 refine⟨λd=>?_,λd=>?_⟩
 .refine bA (Qv x.num y.num (by have:=h.1;omega)) rfl ?_;by_cases f:x.num=y.num
  .simp[f];refine bA (Qv x.den y.den (by have:=h.2;omega)) rfl ?_;simp[key x y,d,f]
  .simp[key x y,f]
 .simp[key x y,d]
def MG(e:Ex)(h:(-1000<e.a/\e.a<1000)/\(-1000<e.b/\e.b<1000) /\ -1000<e.c/\e.c<1000):zS 340 [enc e] (.int .i64 (e.a+e.b+e.c)):=by have j:IntKind.i64.wrap e.a=e.a:=cT;have k:IntKind.i64.wrap (e.a+e.b)=e.a+e.b:=cT;have m:IntKind.i64.wrap (e.a+e.b+e.c)=e.a+e.b+e.c:=cT;refine Sp.vz c.lx λ_=>?_;simp[g.lx];refine jT λR d i f=>?_;simp[g.q8,j];refine d _ ?_;clear d i f;refine jT λR d i f=>?_;simp[g.q8,k];refine d _ ?_;clear d i f;refine jT λR d i f=>?_;simp[g.q8,m];refine d _ ?_;clear d i f;refine jT λR d i f=>?_;simp[g.q8];refine f _ _ ?_;simp
def Qa(d e:Ex):zS 290 [enc d,enc e] (.int .i64 (e.cmp d)):=by
 refine Sp.vz c.lm λ_=>?_;simp[g.lm];refine jT λR f i j=>?_;simp[g.q7];refine bA (vZ e.a d.a) rfl ?_;simp;refine⟨λh=>?_,λh=>?_⟩;rotate_left
 .refine i _ ?_;simp;unfold eP at h ⊢;unfold Ex.cmp
  (repeat' split)<;>first|rfl|omega|simp_all
 refine f _ ?_;clear f i j;refine jT λR f i j=>?_;simp[g.q7];refine bA (vZ e.b d.b) rfl ?_;simp;refine⟨λk=>?_,λk=>?_⟩;rotate_left
 .refine i _ ?_;simp;unfold eP at h k ⊢;unfold Ex.cmp
  (repeat' split)<;>first|rfl|omega|simp_all
 refine f _ ?_;clear f i j;refine jT λR f i j=>?_;simp[g.q7];refine bA (vZ e.c d.c) rfl ?_;simp;refine⟨λm=>?_,λm=>?_⟩;rotate_left
 .refine i _ ?_;simp;unfold eP at h k m ⊢;unfold Ex.cmp
  (repeat' split)<;>first|rfl|omega|simp_all
 refine f _ ?_;clear f i j;refine jT λR f i j=>?_;simp[g.q7];refine j _ _ ?_;simp;unfold eP at h k m;unfold Ex.cmp
 (repeat' split)<;>first|rfl|omega|simp_all
def yay(m:aF)(o:m.bE.sm 1048576):zS 289 [enc m] (.bool m.ok):=by
 have d:(¬ (0<=m.e.a/\m.e.a<=5)\/¬ (0<=m.e.b/\m.e.b<=5)\/¬ (0<=m.e.c/\m.e.c<=5))->m.ok=false:=by
  intro h;have:m.e.ok=false:=by simp only[Ex.ok,decide_eq_false_iff_not];omega
  simp[aF.ok,this]
 refine Sp.vz c.pt λ_=>?_;simp[g.pt];refine jT λR i f j=>?_;by_cases x:0<=m.e.a;rotate_left
 .simp[g.fi,show m.e.a<0 by omega];refine f _ ?_;simp[d (by omega)]
 by_cases r:m.e.a<=5;rotate_left
 .simp[g.fi,show ¬ m.e.a<0 by omega,show 5<m.e.a by omega];refine f _ ?_;simp[d (by omega)]
 simp[g.fi,show ¬ m.e.a<0 by omega,show ¬ 5<m.e.a by omega];refine i _ ?_;clear i f j;refine jT λR i f j=>?_;by_cases y:0<=m.e.b;rotate_left
 .simp[g.fi,show m.e.b<0 by omega];refine f _ ?_;simp[d (by omega)]
 by_cases s:m.e.b<=5;rotate_left
 .simp[g.fi,show ¬ m.e.b<0 by omega,show 5<m.e.b by omega];refine f _ ?_;simp[d (by omega)]
 simp[g.fi,show ¬ m.e.b<0 by omega,show ¬ 5<m.e.b by omega];refine i _ ?_;clear i f j;refine jT λR i f j=>?_;by_cases z:0<=m.e.c;rotate_left
 .simp[g.fi,show m.e.c<0 by omega];refine f _ ?_;simp[d (by omega)]
 by_cases t:m.e.c<=5;rotate_left
 .simp[g.fi,show ¬ m.e.c<0 by omega,show 5<m.e.c by omega];refine f _ ?_;simp[d (by omega)]
 simp[g.fi,show ¬ m.e.c<0 by omega,show ¬ 5<m.e.c by omega];refine i _ ?_;clear i f j;refine jT λR i f j=>?_;simp[g.fi];refine j _ _ ?_;clear i f j;simp;refine bA (MG m.e (by omega)) rfl ?_;simp;refine⟨λu=>?_,λu=>?_⟩
 .have k:m.e.ok=true:=by simp only[Ex.ok,decide_eq_true_eq];omega
  refine bA (Mp m.bE (o.mono (by omega))) rfl ?_;obtain n|n:=iK m.bE.valid
  .simp[n];refine bA (Iq m.bE (o.mono (by omega))) rfl ?_;simp[aF.ok,k,n,Et]
  .simp[n,aF.ok]
 .have k:m.e.ok=false:=by simp only[Ex.ok,decide_eq_false_iff_not];omega
  simp[aF.ok,k]
def Qe(p:List aF)(hp:fP p 1048576)(G:p.length<=1073741824):zS 235 [.sl (ens p)] (.bool (decide (bS p))):=by
 refine Sp.vz c.k9 λ_=>?_;simp[g.k9]
 refine b6 (S:=λk:Nat=>aB [(0,.p (.sl (ens p))),(5,.p (.sl (ens p))),(6,.p (.int .i64 p.length)),(7,.p (.int .i64 k))] []) (I:=λk=>k<=p.length/\∀ i,(h:i<p.length)->i<k->p[i].ok=true/\(0<i->p[i].e.cmp (p[i - 1]'(by omega)).e<0)) (m:=λk=>p.length - k) 0
  (aA.to [0,5,6,7] [] (by simp)) ⟨by omega,λi h j=>by omega⟩ ?_
 rintro k ⟨E,r⟩ R t u C;have y:=aZ k;simp[g.xa,aB];refine⟨λf=>?_,λf=>C _ _ ?_⟩
 .have d:¬ (p[k].ok=true/\(0<k->p[k].e.cmp (p[k - 1]'(by omega)).e<0))->decide (bS p)=false:=λh=>decide_eq_false λz=>h (z k f);refine bK f ?_
  try simp
  refine aW (yay p[k] (hp _ (bU f))) ?_;have step:p[k].ok=true->(0<k->p[k].e.cmp (p[k - 1]'(by omega)).e<0)->∀ i,(h:i<p.length)->i<k+1->p[i].ok=true/\(0<i->p[i].e.cmp (p[i - 1]'(by omega)).e<0):=by
   intro a b i h F;by_cases n:i<k
   .exact r i h n
   .have:i=k:=by omega
    subst this;exact⟨a,b⟩
  obtain h3|h3:=iK p[k].ok;rotate_left
  .simp[h3];refine u _ ?_;simp;simpa using d (by simp[h3])
  by_cases j:0<k;rotate_left
  .have:k=0:=by omega
   subst this;simp[h3];refine t 1 _ (aA.to [0,5,6,7] [] (by simp)) ⟨by omega,step h3 (by omega)⟩ (by omega)
  have x:IntKind.i64.wrap ((k:Int) - 1)=((k - 1:Nat):Int):=by rw[cL (by omega) (by omega)];omega
  have D:0<(k:Int):=by omega
  have o:k - 1<p.length:=by omega
  simp[h3,x,j];refine bK o ?_
  try simp
  refine aW (Qa p[k - 1].e p[k].e) ?_;by_cases s:p[k].e.cmp p[k - 1].e<0
  .simp[show ¬ (0<=p[k].e.cmp p[k - 1].e) by omega,y];refine t (k+1) _ (aA.to [0,5,6,7] [] (by simp)) ⟨by omega,step h3 (λ_=>s)⟩ (by omega)
  .simp[show 0<=p[k].e.cmp p[k - 1].e by omega];refine u _ ?_;simp;simpa using d (λh=>s (h.2 j))
 .have:bS p:=λi h=>r i h (by omega);simp[this]
def ID(p:List aF)(hp:fP p 1048576)(d:p.length<=1073741824):zS 294 [.sl (ens p)] (.sl (ens (pv p))):=by
 refine Sp.vz c.fg λ_=>?_;simp[g.fg];refine bA (Qe p hp d) rfl ?_;by_cases h:bS p
 .simp[h,pv]
 .simp[h,pv]
def dP:aT:=⟨false,[],[]⟩
def Dy:GW:=.mk dP 0 false 0 [] []
def GW.si(k:Int)(w:GW):Prop:=w.parts=[]/\(k≠1->k≠3->w.q=dP)/\(k≠2->w.inf=false/\w.cost=0)/\(k≠4->w.set=0)/\(k≠5->w.aR=[]) /\
 (k=1->w.q.valid=true)/\(k=2->0<=w.cost/\w.cost<=1099511627776/\(w.inf=true->w.cost=0))/\(k=3->w.q.valid=true/\0<=w.q.v/\w.q.v<=1)/\(k=5->bS w.aR)
noncomputable instance (k:Int) (w:GW):Decidable (w.si k):=Classical.propDecidable _
theorem yN{x:UInt64}:x.toNat=0 ↔ x=0:=by rw[<- UInt64.toNat_inj];rfl
def wY{α : Type}{l:List α}:0<l.length ↔ l≠[]:=Dd
def xZ{w:GW}:w.si 1 ↔ w.parts=[]/\w.inf=false/\w.cost=0/\w.set=0/\w.aR=[]/\w.q.valid=true:=by simp[GW.si,and_assoc]
def pY{w:GW}:w.si 2 ↔ w.parts=[]/\w.q=dP/\w.set=0/\w.aR=[]/\0<=w.cost/\w.cost<=1099511627776/\(w.inf=true->w.cost=0):=by simp[GW.si]
def wP{w:GW}:w.si 3 ↔ w.parts=[]/\w.inf=false/\w.cost=0/\w.set=0/\w.aR=[]/\w.q.valid=true/\0<=w.q.v/\w.q.v<=1:=by simp[GW.si,and_assoc]
def Bf{w:GW}:w.si 4 ↔ w.parts=[]/\w.q=dP/\w.inf=false/\w.cost=0/\w.aR=[]:=by simp[GW.si,and_assoc]
def Aq{w:GW}:w.si 5 ↔ w.parts=[]/\w.q=dP/\w.inf=false/\w.cost=0/\w.set=0/\bS w.aR:=by simp[GW.si,and_assoc]
def I6{q:Rat}:0<=kM q ↔ 0<=q:=by rw[<- Rat.num_nonneg];unfold kM;(repeat' split)<;>omega
def D8:(cR 1).sm 1:=⟨nR (by decide),by decide⟩
def XS(w:GW)(m:w.sm 1048576):zS 149 [.int .i64 1,enc w] (.bool (decide (w.si 1))):=by
 refine Sp.vz c.ai λ_=>?_;obtain d|d:=iK w.inf
 .simp[g.ai];refine bA (wF w.q dP (m.q.mono (by omega))) rfl ?_;simp[d];exact⟨λ_ h=>by have:=(xZ.1 h).2;simp[d]at this,λ_ h=>by have:=(xZ.1 h).2;simp[d]at this⟩
 .simp[g.ai];refine bA (wF w.q dP (m.q.mono (by omega))) rfl ?_;simp[d];simp only[xZ,yN,wY,d];refine⟨λf h=>f h.1,λf=>⟨λi=>⟨λj=>⟨λk h=>k h.2.2.2.2.1,λk=>?_⟩,λj h=>j h.2.2.2.1⟩,λi h=>i h.2.2.1⟩⟩;refine bA (IK w.q (m.q.mono (by omega))) rfl ?_;simp[f,i,j,k]
def XT(w:GW)(o:w.sm 1048576):zS 149 [.int .i64 2,enc w] (.bool (decide (w.si 2))):=by
 refine Sp.vz c.ai λ_=>?_;obtain n|n:=iK w.inf
 .simp[g.ai];refine bA (wF w.q dP (o.q.mono (by omega))) rfl ?_;simp[n];simp only[pY,yN,wY,n];refine⟨λd h=>d h.1,λd=>⟨λf=>⟨λi=>⟨λj h=>j h.2.2.2.1,λj=>⟨λk=>⟨λm=>?_,λm h=>?_⟩,λk h=>?_⟩⟩,λi h=>i h.2.2.1⟩,λf h=>f h.2.1⟩⟩
  .simp[d,f,i,j,k,m]
  .have:=h.2.2.2.2.2.1;omega
  .have:=h.2.2.2.2.1;omega
 .simp[g.ai];refine bA (wF w.q dP (o.q.mono (by omega))) rfl ?_;simp[n];simp only[pY,yN,wY,n];refine⟨λd h=>d h.1,λd=>⟨λf=>⟨λi=>⟨λj h=>j h.2.2.2.1,λj=>⟨λk=>⟨λm=>?_,λm h=>?_⟩,λk h=>?_⟩⟩,λi h=>i h.2.2.1⟩,λf h=>f h.2.1⟩⟩
  .simp[d,f,i,j,k,m]
  .have:=h.2.2.2.2.2.1;omega
  .have:=h.2.2.2.2.1;omega
def XU(w:GW)(i:w.sm 1048576):zS 149 [.int .i64 3,enc w] (.bool (decide (w.si 3))):=by
 refine Sp.vz c.ai λ_=>?_;obtain d|d:=iK w.inf
 .simp[g.ai];refine bA (wF w.q dP (i.q.mono (by omega))) rfl ?_;simp[d];exact⟨λ_ h=>by have:=(wP.1 h).2;simp[d]at this,λ_ h=>by have:=(wP.1 h).2;simp[d]at this⟩
 .simp[g.ai];refine bA (wF w.q dP (i.q.mono (by omega))) rfl ?_;simp[d];simp only[wP,yN,wY,d];refine⟨λj h=>j h.1,λj=>⟨λk=>⟨λm=>⟨λn h=>n h.2.2.2.2.1,λn=>?_⟩,λm h=>m h.2.2.2.1⟩,λk h=>k h.2.2.1⟩⟩;refine bA (IK w.q (i.q.mono (by omega))) rfl ?_;obtain r|r:=iK w.q.valid;rotate_left
  .simp[j,k,m,n,r]
  simp[j,k,m,n,r];refine bA (F5 w.q (i.q.mono (by omega))) rfl ?_;simp;refine⟨λt=>?_,λt=>?_⟩
  .have u:Rat.divInt 1 1=1:=rfl;have f:=Cy 1 1 (by omega) (by omega) (by omega);rw[u]at f;refine bA f rfl ?_;simp;refine bA (Tt (cR 1) w.q (D8.mono (by omega)) i.q) rfl ?_;have s:=I6.1 t;simp[kW,s];by_cases o:1<w.q.v
   .simp[o,Rat.not_le.2 o]
   .simp[o,Df.1 o]
  .have s:¬ 0<=w.q.v:=λh=>by have:=I6.2 h;omega
   simp[s]
def XV(w:GW)(m:w.sm 1048576):zS 149 [.int .i64 4,enc w] (.bool (decide (w.si 4))):=by
 refine Sp.vz c.ai λ_=>?_;obtain d|d:=iK w.inf
 .simp[g.ai];refine bA (wF w.q dP (m.q.mono (by omega))) rfl ?_;simp[d];exact⟨λ_ h=>by have:=(Bf.1 h).2;simp[d]at this,λ_ h=>by have:=(Bf.1 h).2;simp[d]at this⟩
 .simp[g.ai];refine bA (wF w.q dP (m.q.mono (by omega))) rfl ?_;simp[d];simp only[Bf,wY,d];refine⟨λf h=>f h.1,λf=>⟨λi=>⟨λj=>⟨λk h=>k h.2.2.2.2,λk=>by simp[f,i,j,k]⟩,λj h=>j h.2.2.2.1⟩,λi h=>i h.2.1⟩⟩
def XW(w:GW)(f:w.sm 1048576):zS 149 [.int .i64 5,enc w] (.bool (decide (w.si 5))):=by
 refine Sp.vz c.ai λ_=>?_;obtain d|d:=iK w.inf
 .simp[g.ai];refine bA (wF w.q dP (f.q.mono (by omega))) rfl ?_;simp[d];exact⟨λ_ h=>by have:=(Aq.1 h).2;simp[d]at this,λ_ h=>by have:=(Aq.1 h).2;simp[d]at this⟩
 .simp[g.ai];refine bA (wF w.q dP (f.q.mono (by omega))) rfl ?_;simp[d];simp only[Aq,yN,wY,d];refine⟨λi h=>i h.1,λi=>⟨λj=>⟨λk=>⟨λm=>?_,λm h=>m h.2.2.2.2.1⟩,λk h=>k h.2.2.2.1⟩,λj h=>j h.2.1⟩⟩;refine bA (P' w.aR f.aR (by have:=f.len;omega)) rfl ?_;simp[i,j,k,m]
def PT(k:Int)(w:GW)(f:1<=k/\k<=5)(d:w.sm 1048576):zS 149 [.int .i64 k,enc w] (.bool (decide (w.si k))):=by
 have:k=1\/k=2\/k=3\/k=4\/k=5:=by omega
 obtain rfl|rfl|rfl|rfl|rfl:=this
 .exact XS w d
 .exact XT w d
 .exact XU w d
 .exact XV w d
 .exact XW w d
def GW.aJ(r:aC)(w:GW):Prop:=r.ok=true/\(r.kind≠6->w.si r.kind)/\(r.kind=6->w.parts.length=r.parts.length/\w=.mk dP 0 false 0 [] w.parts/\∀ i,(h:i<r.parts.length)->(d:i<w.parts.length)->w.parts[i].si r.parts[i])
noncomputable instance (r:aC) (w:GW):Decidable (w.aJ r):=Classical.propDecidable _
def aC.cJ{r:aC}(h:r.ok=true)(d:r.kind≠6):1<=r.kind/\r.kind<=5/\r.parts=[]:=by simp only[aC.ok,bD d,decide_eq_true_eq]at h;exact h
def aC.bQ{r:aC}(h:r.ok=true)(d:r.kind=6):2<=r.parts.length/\r.parts.length<=3/\∀ k∈r.parts,1<=k/\k<=5:=by simp only[aC.ok,aX d,decide_eq_true_eq]at h;exact h
@[simp] theorem GW.qM(q:aT)(c:Int)(i:Bool)(s:UInt64)(p:List aF)(ps:List GW):(GW.mk q c i s p ps).q=q:=rfl
@[simp] theorem GW.kE(q:aT)(c:Int)(i:Bool)(s:UInt64)(p:List aF)(ps:List GW):(GW.mk q c i s p ps).cost=c:=rfl
@[simp] theorem GW.j2(q:aT)(c:Int)(i:Bool)(s:UInt64)(p:List aF)(ps:List GW):(GW.mk q c i s p ps).inf=i:=rfl
@[simp] theorem GW.set_mk(q:aT)(c:Int)(i:Bool)(s:UInt64)(p:List aF)(ps:List GW):(GW.mk q c i s p ps).set=s:=rfl
@[simp] theorem GW.gZ(q:aT)(c:Int)(i:Bool)(s:UInt64)(p:List aF)(ps:List GW):(GW.mk q c i s p ps).aR=p:=rfl
@[simp] theorem GW.c8(q:aT)(c:Int)(i:Bool)(s:UInt64)(p:List aF)(ps:List GW):(GW.mk q c i s p ps).parts=ps:=rfl
@[simp] theorem ym9:dP.neg=false:=rfl
@[simp] theorem ym8:dP.num=[]:=rfl
@[simp] theorem yna:dP.den=[]:=rfl
def yf(n:Nat):dP.sm n:=⟨by simp[dP],by simp[dP]⟩
def GW.sm.bM{n:Nat}{ps:List GW}(h:ps.length<=n)(k:∀ w∈ps,w.sm n):(GW.mk dP 0 false 0 [] ps).sm n:=.mk (yf n) (by intro m hm;simp at hm) (by simp) h k
def F8(r:aC)(w:GW)(u:w.sm 1048576):zS 108 [enc r,enc w] (.bool (decide (w.aJ r))):=by
 refine Sp.vz c.dv λ_=>?_;simp[g.dv];refine bA (oG r) rfl ?_;obtain d|d:=iK r.ok;rotate_left
 .simp[d,GW.aJ]
 simp[d];refine⟨λf=>?_,λf=>?_⟩;rotate_left
 .have j:=aC.cJ d f;refine aW (PT r.kind w ⟨j.1,j.2.1⟩ u) ?_;simp[GW.aJ,d,f]
 refine⟨λD=>?_,λD h=>?_⟩;rotate_left
 .have:=(h.2.2 f).1;omega
 have y:w.parts.length=r.parts.length:=by omega
 have F:=aC.bQ d f;refine aW (Iy (.mk dP 0 false 0 [] w.parts) (.bM u.uU u.parts) w) ?_;by_cases t:GW.mk dP 0 false 0 [] w.parts=w;rotate_left
 .simp[t];exact λh=>t (h.2.2 f).2.1.symm
 simp[t]
 refine b6 (S:=λk:Nat=>aB [(2,.ptr 1 0 0 0),(3,.ptr 2 0 0 0),(5,.p (.int .i64 k))] [(1,⟨2,[.p (enc r)]⟩),(2,⟨8,[.p (enc w)]⟩)]) (I:=λk=>k<=r.parts.length/\∀ i,(h:i<r.parts.length)->(o:i<w.parts.length)->i<k->w.parts[i].si r.parts[i]) (m:=λk=>r.parts.length - k) 0
  (aA.to [2,3,5] [((2,0),1),((3,0),2)] (by simp)) ⟨by omega,λi h o J=>by omega⟩ ?_
 rintro k ⟨L,z⟩ R E G H;have C:=aZ k;simp[g.vo,aB];refine⟨λj=>?_,λj=>H _ _ ?_⟩
 .have n:k<w.parts.length:=by omega
  refine bK j ?_;refine bK n ?_;refine aW (PT r.parts[k] w.parts[k] (F.2.2 _ (bU j)) (u.parts _ (bU n))) ?_;by_cases s:w.parts[k].si r.parts[k]
  .simp[s,C];refine E (k+1) _ (aA.to [2,3,5] [((1,0),1),((2,0),2)] (by simp)) ⟨by omega,λi h o M=>?_⟩ (by omega);by_cases x:i<k
   .exact z i h o x
   .have:i=k:=by omega
    subst this;exact s
  .simp[s];refine G _ ?_;have:¬ w.aJ r:=λh=>s ((h.2.2 f).2.2 k j n);simp[this]
 .have:w.aJ r:=⟨d,λh=>absurd f h,λ_=>⟨y,t.symm,λi h o=>z i h o (by omega)⟩⟩;simp[this]
def TM(m n:aF):m=n ↔ (m.e.a=n.e.a/\m.e.b=n.e.b/\m.e.c=n.e.c)/\m.bE=n.bE:=by obtain⟨⟨a,b,c⟩,q⟩:=m;obtain⟨⟨d,f,h⟩,i⟩:=n;simp
def Yn(m n:aF)(k:m.bE.sm 1048576):zS 168 [enc m,enc n] (.bool (decide (m=n))):=by
 refine Sp.vz c.kd λ_=>?_;simp[g.kd];refine⟨λd f i=>?_,λh=>?_⟩
 .refine bA (QJ m.bE n.bE (k.mono (by omega))) rfl ?_;simp[TM,d,f,i]
 .have j:m≠n:=λe=>by obtain⟨⟨d,f,i⟩,_⟩:=(TM m n).1 e;exact h d f i
  simp[j]
def CV(v:GW)(d:v.sm 1048576):∀ w:GW,zS 128 [enc v,enc w] (.bool (decide (v=w))):=by
 revert v;refine GW.sm.ind λv d t w=>?_;refine Sp.vz c.be λs=>?_;simp[g.be];refine bA (QJ v.q w.q (d.q.mono (by omega))) rfl ?_;by_cases f:v.q=w.q;rotate_left
 .have:v≠w:=λh=>f (by rw[h]);simp[f,this]
 simp[f];refine⟨λj=>?_,λj=>?_⟩;rotate_left
 .exact λh=>j (by rw[h])
 refine⟨λk=>?_,λk=>?_⟩;rotate_left
 .exact λh=>k (by rw[h])
 refine⟨λr=>?_,λm=>?_⟩;rotate_left
 .exact λh=>m (by rw[h])
 have m:v.set=w.set:=UInt64.toNat_inj.1 (by omega);refine bA (Wd v.aR w.aR 168 (by have:=d.len;omega) λx o y _=>Yn x y (d.aR x o)) rfl ?_;by_cases i:v.aR=w.aR;rotate_left
 .have:v≠w:=λh=>i (by rw[h]);simp[i,this]
 simp[i];refine bA (V2 v.parts w.parts 128 (by have:=d.uU;omega) λx o y _=>t x o y) rfl ?_;by_cases n:v.parts=w.parts
 .have:v=w:=GW.ext f j k m i n;simp[this]
 .have:v≠w:=λh=>n (by rw[h]);simp[n,this]
end Go.Ab
namespace Go.Ab
open Enc (enc)
section
variable {P:Program} {K:Ctx} {Z Z':Cz} {st st' st1 st2:St} {w w':World} {a:Act} {N:Nat} {ex:Exit} {A B:Option FA} {Post:Exit->St->Option FA->Prop} {cC:St->Option FA->Prop}
def VZ{c:Callee}{j:Array TypeId}{f:List bP}{i:FuncId}{d:List bP}(h:B4 P c j f=some (.call i d)):∃ g,c=.value g/\dJ g=some (.c (.p (.fn i [])))/\f=d:=by
 unfold B4 at h;split at h
 .grind
 .grind
 .exfalso
  repeat' split at h
  all_goals first
   | cases h
   | (obtain⟨_,_,h⟩:=cO h;cases h)
def nI{α : Type}{x:Option α}{f : α -> Option c7}{i:FuncId}{d:List bP}(h:x.bind f=some (.call i d))(k:∀ y,f y≠some (.call i d)):False:=by obtain⟨y,_,h⟩:=lv h;exact k y h
def vx{α : Type}{x:Option α}{f : α -> c7}{i:FuncId}{d:List bP}(h:x.map f=some (.call i d))(k:∀ y,f y ≠ .call i d):False:=by simp_all
def Vl{t:TypeId}{m k:Operand}{c:Bool}{f:FuncId}{d:List bP}(h:CP P t m k c=some (.call f d)):False:=by
 unfold CP at h
 repeat' split at h
 all_goals first
  | exact nI h λ_ h=>nI h λ_ h=>nI h λ_ h=>vx h λ_ h=>by cases h
  | cases h
def VJ{t:TypeId}{x:Operand}{j i mx:Option Operand}{f:FuncId}{d:List bP}(h:El P t x j i mx=some (.call f d)):False:=by
 unfold El at h
 repeat' split at h
 all_goals first
  | exact nI h λ_ h=>nI h λ_ h=>vx h λ_ h=>by cases h
  | cases h
def UY{i:BinOp}{x y:bP}{f:FuncId}{d:List bP}(h:CD i x y=some (.call f d)):False:=by
 unfold CD at h
 grind
def Vn{i:Fn}{x y:Array Operand}{f:FuncId}{d:List bP}(h:Ej i x y=some (.call f d)):False:=by
 unfold Ej at h
 repeat' split at h
 all_goals first
  | exact vx h λ_ h=>by cases h
  | cases h
def MI{i:Op}{j:FuncId}{d:List bP}(h:oD P i=some (.call j d)):∃ f h,i=.call f/\f.callee=.value h/\dJ h=some (.c (.p (.fn j [])))/\oX f.args.toList=some d:=by
 cases i
 case call c =>
  obtain⟨n,s,h⟩:=lv h;obtain⟨g,o,r,rfl⟩:=VZ h
  grind
 case lookup t m k c=>exact(Vl h).elim
 case slice=>exact(VJ h).elim
 case makeFunc=>exact(Vn h).elim
 case move|assign|alloc|box|nilCheck|extract=>exact(vx h λ_ h=>by cases h).elim
 case pick=>exact(nI h λ_ h=>nI h λ_ h=>vx h λ_ h=>by cases h).elim
 case binOp =>
  refine(nI h λ_ h=>nI h λ_ h=>?_).elim;split at h
  .grind
  .grind
  .exact UY h
  .simp_all
 case unOp =>
  refine(nI h λ_ h=>?_).elim;split at h<;>cases h
 case convert =>
  refine(nI h λ_ h=>?_).elim;split at h<;>cases h
 case load=>refine(nI h λ_ h=>?_).elim;split at h<;>cases h
 case store=>refine(nI h λ_ h=>nI h λ_ h=>?_).elim;split at h<;>cases h
 case build =>
  simp only[oD]at h;split at h
  .refine(nI h λ_ h=>nI h λ_ h=>?_).elim;split at h
   .exact vx h λ_ h=>by cases h
   .cases h
  .refine(nI h λ_ h=>nI h λ_ h=>?_).elim;split at h
   .exact vx h λ_ h=>by cases h
   .cases h
  .cases h
 case buildSlice =>
  simp only[oD]at h;split at h
  .exact(nI h λ_ h=>vx h λ_ h=>by cases h).elim
  .cases h
 case makeSlice =>
  simp only[oD]at h;split at h
  .refine(nI h λ_ h=>nI h λ_ h=>nI h λ_ h=>?_).elim;split at h<;>cases h
  .cases h
 case fieldAddr =>
  simp only[oD]at h;split at h
  .split at h
   .split at h
    .exact(vx h λ_ h=>by cases h).elim
    .cases h
   .cases h
  .cases h
 case field =>
  simp only[oD]at h;split at h
  .split at h
   .split at h
    .exact(vx h λ_ h=>by cases h).elim
    .cases h
   .cases h
  .cases h
 case indexAddr =>
  simp only[oD]at h;split at h
  .split at h
   .exact(nI h λ_ h=>vx h λ_ h=>by cases h).elim
   .cases h
  .split at h
   .exact(nI h λ_ h=>vx h λ_ h=>by cases h).elim
   .cases h
  .cases h
 case index =>
  simp only[oD]at h;split at h
  .split at h
   .exact(nI h λ_ h=>vx h λ_ h=>by cases h).elim
   .cases h
  .exact(nI h λ_ h=>vx h λ_ h=>by cases h).elim
  .cases h
 all_goals cases h
theorem Ma{d:Option Nat}{f:FuncId}{xs:List bP}{r:Nat}{ks vs args H I:List PV}(V:DH P f ks vs args H I)(bt:xs.map st.ev=.p (.fM r)::args.map .p)(bk:jR H=true)(bo:jR I=true)
  (k:cC (st.put d (.p (.bM []))) (some (sN r H I))):ql P N ⟨d,.call f xs,none⟩ st (some (sN r ks vs)) cC:=by
 intro bu j o K Z w a Q Kt hN hj av G hA hK;obtain⟨h1,h2,h3,h4⟩:=EE av;obtain⟨Y,h,br,hf,hh,al⟩:=MI h1;have hg:o.guard=none:=by
  cases hg:o.guard with
  | none=>rfl
  | some jb =>
   obtain⟨j,b⟩:=jb;rw[hg]at h2;simp only[A3]at h2;split at h2<;>cases h2
 have hw:Region.wanted o (yielded bu a.tmps)=true:=by simp[Region.wanted,hg]
 have hd:d=o.dst:=h3;obtain⟨aw,V⟩:=V;have hr:=CJ al G;rw[bt]at hr;have ag:=fH hh G;simp only[St.ev]at ag;have bb:a.eval h=.func (.func f) #[] #[]:=by
  have hp:=ag.cF;generalize a.eval h=F at hp ⊢;cases hp with
  | fn _ _ E h=>cases h;rfl
 have R:(execOp a.eval o).run P w=.ok (.enter f ((Y.args.toList.map a.eval).toArray)) w:=by
  have:=Gq (P:=P) (w:=w) (args:=(Y.args.toList.map a.eval).toArray) aw;simp only[execOp,br,resolve,hf,bb,Deferred.ofValue,mW,oJ,qF,invoke];have e : #[]++Y.args.map a.eval ++ #[]=(Y.args.toList.map a.eval).toArray:=by simp[<- Array.toList_map]
  rw[e];exact this
 have ao:PReps Z.M (.fM r::args) (Y.args.toList.map a.eval):=aG.pq (by simpa using hr);generalize Y.args.toList.map a.eval=E at ao R;obtain⟨U,hX,es,t,q0,q1,q2,q3,q4,q5⟩:=hA;simp only[sN]at U hX q0
 let J:Nat->Option Obj:=λb=>if b=r then w.heap[r]? else Z.M b
 have z:∀ b o,Z.M b=some o->J b=some o:=λb o D=>by
  simp only[J];rw[bD];· exact D
  .rintro rfl;rw[U.m]at D;cases D
 have au:∀ b o,J b=some o->w.heap[b]?=some o:=λb o D=>by
  simp only[J]at D;split at D
  .rename_i u;subst u;exact D
  .exact G.heap.mem b o D
 have W:PReps J (.mp r ks vs::args) E:=by
  cases ao with
  | cons _ _ _ _ h0 h1 =>
   cases h0;exact .cons _ _ _ _ (.mp r ks vs es t (by simp only[J,cH];exact q0) (q1.mono z) (q2.mono z) q3 q4 q5) (h1.mono z)
 refine(show o.wp P a w Kt Q from ?_) |> λh=>by unfold wpOp;simp only[hj,hw,cH];exact .inl h
 unfold Oper.wp;rw[R,E2];refine(V w J r E au W).mono ?_;rintro e w' ⟨X,rfl,p1,p2,p3,p4,p5⟩;obtain⟨n,i,t0,t1,t2,t3,t4,t5⟩:∃ n i,X r=some (.map n i)/\PReps X H (n.toList.map (·.key))/\PReps X I (n.toList.map (·.val))/\(n.toList.map (·.key)).Nodup/\(∀ e∈n.toList,e.born<i)/\(n.toList.map (·.born)).Nodup:=by
  cases p5 with
  | mp _ _ _ es t m0 m1 m2 m3 m4 m5=>exact⟨es,t,m0,m1,m2,m3,m4,m5⟩
 let C:Nat->Option Obj:=λb=>if b=r then none else X b
 have ad:∀ b o,C b=some o->b≠r/\X b=some o:=λb o h=>by
  simp only[C]at h;split at h
  .cases h
  .exact⟨by assumption,h⟩
 have x:∀ b S T fr,X b=some (.cells S T fr)->C b=some (.cells S T fr):=λb S T fr h=>by
  simp only[C];rw[bD];· exact h
  .rintro rfl;rw[t0]at h;cases h
 have O:∀ b o,C b=some o->Z.M b=some o\/w.heap.size<=b:=λb o h=>by
  obtain⟨g1,g2⟩:=ad b o h;obtain h|h|h:=p3 b o g2
  .exact absurd h g1
  .simp only[J]at h;rw[bD g1]at h;exact .inl h
  .exact .inr h
 have aq:bG K Z st w':=G.heap.world p4 λb u=>by subst u;exact⟨U.m,U.o,hX⟩
 have L:∀ b o,Z.M b=some o->C b=some o:=λb o u=>by
  have af:b≠r:=by rintro rfl;rw[U.m]at u;cases u
  simp only[C];rw[bD af];exact p1 b o af (z b o u)
 have ap:bG K { Z with M:=C } st w':=by
  refine aq.grow (Keep.refl _ _) C L (λb o u=>p2 b o (ad b o u).2) (λb o u=>?_) (λs g o b D u=>?_)
  .obtain h|h:=O b o u
   .exact .inl h
   .exact .inr (.inr (dM G.heap.keep.size h))
  .cases hm:C b with
   | none=>rfl
   | some y =>
    obtain h|h:=O b y hm
    .rw[G.heap.sep s g o b D u]at h;cases h
    .have:=G.heap.lt D u;omega
 have hz:cP Z st { Z with M:=C } st:=.j3 L;refine hK _ _ _ _ _ k (?_:aN K { Z with M:=C } (st.put d (.p (.bM []))) w' _) (nN.site ?_ λs=>pT st d _ s)
 .rw[hd];exact G.put rfl hz ap (.p _ _ (.bM [] [] .nil)) (by subst hN;exact h4) G.defers
 .refine⟨⟨by simp[C,sN],U.o,?_⟩,hX,n,i,p2 _ _ t0,t1.cN x bk,t2.cN x bo,t3,t4,t5⟩;exact iL U.lt p4.size
theorem MR.freeze{ac:AC}{t r:Nat}{ks vs:List PV}(J:st.get t=.p (.fM r))(k:MR P N ac (st.put (some t) (.p (.mp r ks vs))) none Post):MR P N ac st (some (sN r ks vs)) Post:=by
 intro code I K Z w a Q G hs F H;obtain⟨y,D,es,clock,E,L,O,R,S,U⟩:=F;simp only[sN]at y D E
 let h:Nat->Option Obj:=λb=>if b=r then w.heap[r]? else Z.M b
 have d:∀ b o,Z.M b=some o->h b=some o:=λb o n=>by
  simp only[h];rw[bD];· exact n
  .rintro rfl;rw[y.m]at n;cases n
 have z:bG K { Z with M:=h } st w:=by
  refine hs.heap.grow (Keep.refl _ _) h d (λb o f=>?_) (λb o f=>?_) (λs g o b n f=>?_)
  .simp only[h]at f;split at f
   .rename_i j;subst j;exact f
   .exact hs.heap.mem b o f
  .simp only[h]at f;split at f
   .rename_i j;subst j;exact .inr D
   .exact .inl f
  .simp only[h];rw[bD];· exact hs.heap.sep s g o b n f
   .rintro rfl;exact y.o s g o n f
 have hz:cP Z st { Z with M:=h } st:=.j3 d;have C:aN K { Z with M:=h } (st.put (some t) (.p (.mp r ks vs))) w a:=by
  refine⟨λu=>?_,hs.defers,hs.size,z.hJ λi=>pT _ _ _ i⟩;rw[xM];split
  .rename_i hu;cases hu;have x:=hs.aY t;rw[J]at x;have x:=x.cF;generalize a.tmps.getD t Go.undef=X at x;cases x;exact .p _ _ (.mp r ks vs es clock (by simp only[h,cH];exact E) (L.mono d) (O.mono d) R S U)
  .exact aQ.mono (sC (λi=>pT _ _ _ i) _) (aQ.mono hz (hs.aY u))
 exact k code I K _ w a Q G C trivial H
theorem Sp.fZ{f:FuncId}{args:List PV}{res:RV}{n np:Nat}{b:GC}{rs:List (Nat × Option Nat)}(d:aP P f=some ⟨n,np,b.er,rs⟩)(hn:args.length<=n)
  (h:MR P n b.er (vy args) none λex s _=>iD rs res ex s):Sp P f args res:=by
 unfold aP at d;split at d
 .rename_i fn G;split at d
  .rename_i k;split at d
   .rename_i c F;split at d
    .rename_i Y u y z;simp only[cD,Cv.mk.injEq]at d;obtain⟨rfl,_,rfl,rfl⟩:=d;refine⟨⟨fn,G,by rw[F];rfl,k⟩,λw M vals L t=>?_⟩;refine calls_of_wp G F ?_;refine h _ y ⟨w,M,λ_=>False,fn.ntmps⟩ _ w _ _ rfl (LH L t hn) trivial (λex st' A' Z' w' E hp hs _=>?_);have O:(ex=.ret\/ex=.normal)/\∃ vs,oF st' u=some vs/\pL st' (dD vs) res:=by
      have key:(ex=.ret\/ex=.normal)/\∃ vs,oF st' u=some vs/\kO st' (dD vs) res:=by
       cases ex with
       | ret=>exact⟨.inl rfl,hp⟩
       | normal=>exact⟨.inr rfl,hp⟩
       | _=>exact hp.elim
      obtain⟨Q,vs,X,j⟩:=key;refine⟨Q,vs,X,?_⟩;unfold kO at j;split at j
      .exact .pure _ _ j
      .split at j
       .rename_i sz es s' g off len t;obtain⟨o,y,rfl,z,rfl,J⟩:=j;rw[t];exact .fresh _ _ _ _ _ y z J
       .rename_i t;rw[t,j];exact .nil _
       .exact j.elim
      .exact j.elim
     obtain⟨C,vs,D,m⟩:=O
     have i:E.defers=[]/\∃ v,(results fn E.tmps).run P w'=.ok v w'/\∃ x M',Ending.returned v=.returned x/\(∀ b o,M b=some o->M' b=some o)/\(∀ b o,M' b=some o->w'.heap[b]?=some o) /\
       (∀ b o,M' b=some o->M b=some o\/w.heap.size<=b)/\Keep w w' (λ_=>False)/\sq M' w w' res x:=by
      obtain⟨xs,H,I⟩:=D7 hs z D;obtain⟨M',R,S,U,V,W⟩:=LN hs.heap I.dD m;refine⟨hs.defers,_,?_,_,M',rfl,R,S,U,V,W⟩;unfold results;rw[EY];simp only[mW,map_eq_pure_bind,oJ];exact congrArg (λr=>(Result.andThen r λa w'=>Result.ok a.toArray w').andThen λ(a:Array Value) w'=>Result.ok (if h:a.size=1 then a[0]else Value.tuple a) w') H
     obtain rfl|rfl:=C
     .exact i
     .exact i
    .cases d
   .cases d
  .cases d
 .cases d
end
section
variable {P:Program} {K:Ctx} {st st' st1:St} {N:Nat} {A B:Option FA} {Post:Exit->St->Option FA->Prop} {cC:St->Option FA->Prop}
def MR.dG{a b:GC}(h:vm P N (λex s=>(ex=.normal->MR P N b.er s A Post)/\(ex ≠ .normal->Post ex s A)) [.code a] st):MR P N (GC.seq a b).er st A Post :=
 .seq (.cE h)
def MR.cK{a b:GC}(h:MR P N a.er st A λex s B=>(ex=.normal->MR P N b.er s B Post)/\(ex ≠ .normal->Post ex s B)):MR P N (GC.seq a b).er st A Post:=.seq h
theorem MR.eY{a b:GC}{c:bP}{d:List Nat}{t:Bool}(i:st.ev c=.p (.bool t))(f:t=true->MR P N a.er (st.drop d) A Post)(h:t=false->MR P N b.er (st.drop d) A Post):MR P N (GC.cond c d a b).er st A Post:=by
 refine .cond i ?_;cases t with
 | true=>exact .eE (II _ _) (f rfl)
 | false=>exact .eE (II _ _) (h rfl)
def MR.yW{ops:List Ins}{pre dead:List (List Nat)}{i:Ins}(f:ops.getLast?=some i)(hl:Nb pre ops.dropLast.length=true)
  (h:vm P N (λex s=>ex=.normal->ql P N i s A λs B=>Post .normal s B) [.fN ops.dropLast [] pre dead] st):MR P N (GC.fR ops pre dead).er st A Post:=by
 obtain⟨gs,s1,o,j,k,m,n⟩:=lL _ (dE _) h;have e:ops=ops.dropLast++[i]:=by
  have d:ops≠[]:=by rintro rfl;simp at f
  rw[List.getLast?_eq_getLast d]at f;rw[<- Option.some.inj f];exact(List.dropLast_concat_getLast d).symm
 show MR P N (.fR ops pre) st A Post;rw[e];exact .G9 j (by simpa using k) hl (.eE m (n rfl))
def MR.mC{ops:List Ins}{dead:List (List Nat)}(h:eC P N ops st A λs B=>Post .normal s B):MR P N (GC.cX ops dead).er st A Post:=.cX h
def AU(n:Nat)(d:List (List Nat)){ops:List Ins}(h:Go.Ab.vm P N (λex s=>ex=.normal->eC P N (ops.drop n) s A cC) [.ins (ops.take n) d] st):eC P N ops st A cC:=by
 have:=eC.vm h
 rwa[oK]at this
def eC.nil(h:cC st A):eC P N [] st A cC:=⟨st,aA.refl _,h⟩
def eC.cons{i:Ins}{is:List Ins}(h:ql P N i st A λs B=>eC P N is s B cC):eC P N (i::is) st A cC:=h
def MR.kR{b:GC}{id:Nat}(h:MR P N b.er st A λex s B=>Post (Ot id ex) s B):MR P N (GC.bX id b).er st A Post:=.bX h
def MR.nL{b:GC}{I:Nat->St->Option FA->Prop}(n:Nat)(d:I n st A)(step:∀ n st A,I n st A->MR P N b.er st A λex s B=>(ex=.normal->∃ m,m<n/\I m s B)/\(ex ≠ .normal->Post ex s B)):MR P N (GC.loop b).er st A Post:=.loop n d step
def MR.uW{id:Nat}(h:Post (.exit id) st A):MR P N (GC.ext id).er st A Post:=.ext h
def MR.pE(h:Post .normal st A):MR P N GC.js.er st A Post:=.js h
attribute [simp] jR PV.cN
end
section
variable {κ α : Type} [Enc κ] [Enc α] [DecidableEq κ]
def jZ(e : κ):List (κ × α)->Option α
 | []=>none
 | (d,c)::L=>if d=e then some c else jZ e L
def kQ(e : κ)(c : α):List (κ × α)->List (κ × α)
 | []=>[(e,c)]
 | (d,f)::L=>if d=e then(d,c)::L else(d,f)::kQ e c L
def n3(L:List (κ × α)):List PV:=L.map λp=>enc p.1
def pD(L:List (κ × α)):List PV:=L.map λp=>enc p.2
theorem RA{kc : κ -> List PV}(h:∀ e,enc e=.agg (kc e))(d:∀ e f,tD (kc e) (kc f)=true ↔ e=f)(e : κ):∀ L:List (κ × α),oE (kc e) (n3 L) (pD L)=(jZ e L).map enc
 | []=>rfl
 | (f,c)::L=>by
  simp only[n3,pD,jH,h,oE,d,jZ];split
  .rfl
  .have:=RA h d e L;simp only[n3,pD,h]at this;exact this
theorem Q9{kc : κ -> List PV}(f:∀ e,enc e=.agg (kc e))(d:∀ e h,tD (kc e) (kc h)=true ↔ e=h)(e : κ)(c : α):∀ L:List (κ × α),mQ (kc e) (enc c) (n3 L) (pD L)=(n3 (kQ e c L),pD (kQ e c L))
 | []=>by simp[n3,pD,mQ,kQ,f]
 | (h,j)::L=>by
  have i:=Q9 f d e c L;simp only[n3,pD,f]at i;simp only[n3,pD,jH,f,mQ,d,kQ];split
  .rfl
  .simp only[i,jH]
theorem L'(e : κ)(c : α)(d : κ):∀ L:List (κ × α),jZ d (kQ e c L)=if e=d then some c else jZ d L
 | []=>rfl
 | (i,k)::L=>by
  have j:=L' e c d L;by_cases h:i=e
  .subst h;simp only[kQ,cH,jZ];by_cases f:i=d
   .simp[f]
   .simp[f]
  .simp only[kQ,bD h,jZ,j];by_cases f:i=d
   .subst f;simp[wJ h]
   .simp[f]
theorem PE(e : κ)(c : α):∀ L:List (κ × α),(kQ e c L).map (·.1)=if e∈L.map (·.1)then L.map (·.1)else L.map (·.1)++[e]
 | []=>rfl
 | (i,f)::L=>by
  have d:=PE e c L;simp only[kQ];split
  .rename_i h;subst h;simp
  .rename_i h;simp only[jH,d,cI,wJ h,false_or];split<;>rfl
theorem TB{e : κ}{c : α}:∀ {L:List (κ × α)},jZ e L=some c->(e,c)∈L
 | (i,f)::L,h=>by
  simp only[jZ]at h;split at h
  .rename_i d;subst d;cases h;simp
  .exact tX _ (TB h)
def Yz(e : κ)(c : α){L:List (κ × α)}(h:(L.map (·.1)).Nodup):((kQ e c L).map (·.1)).Nodup:=by
 rw[PE];split
 .exact h
 .rename_i i;exact GS.2 ⟨h,by simp,λa f b d=>by simp at d;subst d;rintro rfl;exact i f⟩
end
end Go.Ab
