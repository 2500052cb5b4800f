/- Lemmas for the law ProjectAppliesMadeModels, part 11. No conditions. -/
import Derived.Test.YthhdboljpgdcpaaGreatDoorDP10
set_option maxRecDepth 100000
set_option maxHeartbeats 4000000
set_option linter.all false
namespace Go.Ab
open Go.Proofs
def c.iy:aP P 255=zC 9 2 g.iy []:=by kernel_rfl
def c.ja:aP P 352=zC 53 4 g.ja []:=by kernel_rfl
def c.qj:aP P 391=zC 53 4 g.qj []:=by kernel_rfl
def c.lz:aP P 372=zC 148 5 g.lz []:=by kernel_rfl
def c.ln:aP P 307=zC 63 3 g.ln []:=by kernel_rfl
def c.aj:aP P 24=zC 33 1 g.aj [(2,some 8),(3,none)]:=by kernel_rfl
def c.fm:aP P 27=kw 64 2 g.fm 4:=by kernel_rfl
def c.jn:aP P 77=kw 8 2 g.jn 3:=by kernel_rfl
def c.ck:aP P 47=kw 103 1 g.ck 2:=by kernel_rfl
def c.gh:aP P 73=kw 27 2 g.gh 4:=by kernel_rfl
def c.n4:aP P 99=kw 9 1 g.n4 2:=by kernel_rfl
def c.n5:aP P 101=kw 17 3 g.n5 6:=by kernel_rfl
def c.j7:aP P 143=kw 8 2 g.j7 3:=by kernel_rfl
def c.fv:aP P 48=kw 32 2 g.fv 4:=by kernel_rfl
end Go.Ab
namespace Go.Ab
open IntKind (i64)
def val:List UInt32->Nat
 | []=>0
 | x::l=>x.toNat+4294967296*val l
def lb(n:Nat):List UInt32:=if h:n=0 then[]else UInt32.ofNat n::lb (n / 4294967296)
termination_by n
decreasing_by omega
def jD(x:UInt32):x.toNat<4294967296:=x.toNat_lt
def oH(n:Nat):(UInt32.ofNat n).toNat=n % 4294967296:=by simp[UInt32.toNat_ofNat']
def ye{x y:UInt32}(h:x.toNat=y.toNat):x=y:=UInt32.toNat_inj.1 h
@[simp] theorem S1:val []=0:=rfl
@[simp] theorem sQ(x:UInt32)(l:List UInt32):val (x::l)=x.toNat+4294967296*val l:=rfl
@[simp] theorem yge:lb 0=[]:=by rw[lb];simp
def BG{n:Nat}(h:n≠0):lb n=UInt32.ofNat n::lb (n / 4294967296):=by rw[lb];simp[h]
@[simp] theorem DU(n:Nat):val (lb n)=n:=by
 induction n using Nat.strongRecOn with
 | ind n a =>
  by_cases h:n=0
  .subst h;simp
  .rw[BG h,sQ,oH,a _ (by omega)];omega
theorem QT(l r:List UInt32):val (l++r)=val l+4294967296^l.length*val r:=by
 induction l with
 | nil=>simp
 | cons x l a=>rw[xX,sQ,a,sQ,qH,kJ];rw[sE,oI _ 4294967296,pX];omega
theorem oW(l:List UInt32):val l<4294967296^l.length:=by
 induction l with
 | nil=>simp
 | cons x l a=>rw[sQ,qH,kJ];have:=jD x;omega
theorem Jb(n:Nat):val (List.replicate n 0)=0:=by
 induction n with
 | zero=>rfl
 | succ n a=>rw[Cj,sQ,a];rfl
theorem vC(l:List UInt32)(i:Nat):val (l.take (i+1))=val (l.take i)+4294967296^i*(l.getD i 0).toNat:=by
 induction l generalizing i with
 | nil=>simp
 | cons x l a =>
  cases i with
  | zero=>simp
  | succ i=>simp only[GV,sQ,a,List.getD_cons_succ,kJ];rw[sE,oI (4294967296^i) 4294967296,pX];omega
def Gr(l:List UInt32){i:Nat}(h:l.length<=i):val (l.take i)=val l:=by rw[eZ h]
def AZ(l:List UInt32)(x:UInt32):val (l++[x])=val l+4294967296^l.length*x.toNat:=by rw[QT];simp
theorem HY(l:List UInt32)(i:Nat)(x:UInt32)(h:i<l.length):val (l.set i x)+4294967296^i*(l.getD i 0).toNat=val l+4294967296^i*x.toNat:=by
 induction l generalizing i with
 | nil=>simp at h
 | cons y l a =>
  cases i with
  | zero=>simp;omega
  | succ i =>
   have:=a i (by simpa using h);simp only[List.set_cons_succ,sQ,List.getD_cons_succ,Nat.pow_succ];rw[Nat.mul_comm (4294967296^i) 4294967296,Nat.mul_assoc,Nat.mul_assoc];omega
def Pj(l:List UInt32)(i:Nat):val l=val (l.take i)+4294967296^(min i l.length)*val (l.drop i):=by
 conv=>lhs;rw[<- List.take_append_drop i l]
 rw[QT,fY]
def HX(l:List UInt32)(i:Nat):val l / 4294967296^i=val (l.drop i):=by
 obtain h|h:=pW l.length i
 .rw[EW (by omega)];refine Ac (iL (oW l) (pV (by omega) (by omega)))
 .have:=Pj l i;rw[uN h]at this;rw[this,JA _ _ (qZ (by omega))];have a:=oW (l.take i);rw[fY,uN h]at a;rw[Ac a];omega
def CQ(l:List UInt32)(i:Nat):(l.getD i 0).toNat=val l / 4294967296^i % 4294967296:=by
 rw[HX];obtain h|h:=pW i l.length
 .rw[vJ h,sQ];simp[h]
 .rw[EW h];simp[E0 h]
def gK(l:List UInt32):Prop:=l.getLast?≠some 0
theorem wD:∀ {l:List UInt32},gK l->lb (val l)=l
 | [],_=>by simp
 | x::l,h=>by
  have j:gK l:=by
   cases l with
   | nil=>simp[gK]
   | cons y r=>simpa[gK]using h
  have a:=wD j;have b:val (x::l)≠0:=by
   intro d;simp only[sQ]at d;have m:x=0:=ye (by simp;omega);have k:val l=0:=by omega
   rw[k]at a;simp at a;subst m;subst a;simp[gK]at h
  rw[BG b];have f:UInt32.ofNat (val (x::l))=x:=ye (by rw[oH,sQ];have:=jD x;omega);have i:val (x::l) / 4294967296=val l:=by rw[sQ];have:=jD x;omega
  rw[f,i,a]
theorem tT(n:Nat):gK (lb n):=by
 induction n using Nat.strongRecOn with
 | ind n d =>
  by_cases h:n=0
  .subst h;simp[gK]
  .rw[BG h];have:=d (n / 4294967296) (by omega);by_cases a:n / 4294967296=0
   .rw[a];simp only[yge,gK,List.getLast?_singleton,ne_eq,cD];intro b;have:=congrArg UInt32.toNat b;rw[oH]at this;simp at this;omega
   .rw[BG a]at this ⊢;simpa[gK]using this
@[simp] theorem yhl(n:Nat):lb n=[] ↔ n=0:=⟨λh=>by have:=congrArg val h;simpa using this,λh=>by subst h;simp⟩
theorem nR{n k:Nat}(h:n<4294967296^k):(lb n).length<=k:=by
 induction k generalizing n with
 | zero=>simp at h;subst h;simp
 | succ k b =>
  by_cases a:n=0
  .subst a;simp
  .rw[BG a,qH];have:=@b (n / 4294967296) (by rw[kJ]at h;omega);omega
def CC:lb 1=[1]:=by rw[BG (by omega)];simp
def MB{n:Nat}(h:n≠0):0<(lb n).length:=by rw[BG h];simp
theorem Mh{n:Nat}(h:n≠0):4294967296^((lb n).length - 1)<=n:=by
 induction n using Nat.strongRecOn with
 | ind n b =>
  rw[BG h,qH,GZ];by_cases a:n / 4294967296=0
  .rw[a];simp;omega
  .have:=b _ (by omega) a;have d:=MB a;have e:(lb (n / 4294967296)).length=(lb (n / 4294967296)).length - 1+1:=by omega
   rw[e,kJ];omega
def kS(m n:Nat):Int:=if m<n then -1 else if m=n then 0 else 1
def IZ(l:List UInt32)(i:Nat):val l / 4294967296^i=4294967296*(val l / 4294967296^(i+1))+(l.getD i 0).toNat:=by rw[CQ,kJ,<- Nat.div_div_eq_div_mul];omega
theorem I1(l:List UInt32){i:Nat}(h:l.length<=i):val l / 4294967296^i=0:=by rw[HX,EW h];rfl
def Ix{m n k:Nat}(h:m / k<n / k):m<n:=by apply Nat.lt_of_not_le;intro a;have:=Nat.div_le_div_right (c:=k) a;omega
def VT{l:List UInt32}{i:Nat}{x:UInt32}(h:i<l.length):(l.set i x).take (i+1)=l.take i++[x]:=by rw[List.take_succ_eq_append_getElem (by simpa using h)];simp[List.take_set_of_le]
def VF{l:List UInt32}{i:Nat}{x:UInt32}(h:i<l.length):val ((l.set i x).take (i+1))=val (l.take i)+4294967296^i*x.toNat:=by rw[VT h,AZ,fY,uN (by omega)]
def RR{l:List UInt32}{n:Nat}(h:val l<4294967296^n):val (l.take n)=val l:=by
 obtain hn|hn:=pW n l.length
 .have a:=Pj l n;rw[uN (by omega)]at a;have:val (l.drop n)=0:=by apply Nw;intro b;have:=JG (4294967296^n) b;omega
  rw[this]at a;omega
 .rw[Gr _ hn]
def QR{v v' p q B sum o x y d r A T:Nat}(h:v'+p*q*o=v+p*q*r)(f:v+p*q*sum=A+p*x*T)(a:B*d+r=sum+(o+x*y)) :
  v'+p*(q*B)*d=A+p*x*(T+q*y):=by
 have b:p*q*(B*d+r)=p*q*(sum+(o+x*y)):=by rw[a]
 simp only[sE,oI,Nat.mul_left_comm]at *
 omega
def Gv(k:Nat):2^k=4294967296^(k / 32)*2^(k % 32):=by have:(4294967296:Nat)=2^32:=rfl;rw[this,<- Nat.pow_mul,<- Nat.pow_add];congr 1;omega
def Gb{s:Nat}(h:s<32):2^s<=2147483648:=pV (n:=2) (by omega) (show s<=31 by omega)
def Vd(x y r s:Nat)(hs:s<32):(x+4294967296*(y+4294967296*r)) / 2^s % 4294967296=(y*4294967296+x) / 2^s % 4294967296:=by
 have h:2^s*2^(32 - s)=4294967296:=by rw[<- Nat.pow_add,show s+(32 - s)=32 by omega]
 have e:x+4294967296*(y+4294967296*r)=(y*4294967296+x)+2^s*(4294967296*(2^(32 - s)*r)):=by rw[<- Nat.mul_assoc (2^s),oI (2^s) 4294967296,pX,<- Nat.mul_assoc (2^s),h,sE];omega
 rw[e,JA _ _ (qZ (by omega)),Nv]
def RQ(l:List UInt32)(i:Nat):val (l.drop i)=(l.getD i 0).toNat+4294967296*val (l.drop (i+1)):=by
 obtain h|h:=pW i l.length
 .rw[vJ h,sQ];simp[h]
 .rw[EW h,EW (by omega)];simp[E0 h]
def uB(n:Nat):n<4294967296^(lb n).length:=by have:=oW (lb n);simpa using this
def ybo{U V i L:Nat}(b:4294967296^(L - 1)<=V)(m:0<L)(f:U<V*4294967296^(i+1)) :
  U / (V*4294967296^i)<=min (U / 4294967296^(i+L - 1) / (V / 4294967296^(L - 1))) 4294967295:=by
 have a:∀ k,0<4294967296^k:=λk=>qZ (by omega);have n:0<V:=iL (a _) b;refine Nat.le_min.2 ⟨?_,?_⟩
 .have o:0<V / 4294967296^(L - 1):=Nat.div_pos b (a _);rw[Jz o,Jz (a _)];have r:U / (V*4294967296^i)*(V*4294967296^i)<=U:=Nat.div_mul_le_self _ _;have h:V / 4294967296^(L - 1)*4294967296^(L - 1)<=V:=Nat.div_mul_le_self _ _;have e:i+L - 1=(L - 1)+i:=by omega
  rw[e,rN];generalize U / (V*4294967296^i)=d at *
  have j:d*(V / 4294967296^(L - 1)*4294967296^(L - 1))<=d*V:=Aa _ h;have s:=jU (4294967296^i) j;simp only[pX]at *
  omega
 .have:U / (V*4294967296^i)<4294967296:=by rw[Da (Cd n (a _))];rw[kJ]at f;rw[oI 4294967296,pX];exact f
  omega
def YM{U n:Nat}(h:U<4294967296^(n+2)):((lb U).getD (n+1) 0).toNat*4294967296+((lb U).getD n 0).toNat=U / 4294967296^n:=by
 have a:=CQ (lb U) (n+1);have b:=CQ (lb U) n;have e:U / 4294967296^(n+1)=U / 4294967296^n / 4294967296:=by rw[kJ,NH]
 have d:U / 4294967296^n<4294967296*4294967296:=by
  rw[Da (qZ (by omega))];have:4294967296^(n+2)=4294967296*4294967296*4294967296^n:=by rw[rN,oI]
  omega
 rw[DU]at a b;rw[a,b,e];generalize U / 4294967296^n=x at *
 omega
def X9{V:Nat}(b:V≠0):((lb V).getD ((lb V).length - 1) 0).toNat=V / 4294967296^((lb V).length - 1)/\0<V / 4294967296^((lb V).length - 1):=by
 have a:=CQ (lb V) ((lb V).length - 1);rw[DU]at a;have d:=uB V;have f:=MB b;constructor
 .rw[a,uM];rw[Da (qZ (by omega)),oI,<- Nat.pow_succ,Nat.succ_eq_add_one,show(lb V).length - 1+1=(lb V).length by omega];exact d
 .exact Nat.div_pos (Mh b) (qZ (by omega))
def Ui(i:Nat):2^(32*i)=4294967296^i:=by rw[TQ]
def ycj{m n:Nat}:kS m n<0 ↔ m<n:=by unfold kS;split<;>(try split)<;>omega
def IY{m n:Nat}:0<=kS m n ↔ n<=m:=by unfold kS;split<;>(try split)<;>omega
def F'{m n:Nat}:kS m n=0 ↔ m=n:=by unfold kS;split<;>(try split)<;>omega
def vV(a:List UInt32)(i:Int)(h:0<=i):zS 308 [.sl (ens a),.int .i64 i] (.int .u64 (a.getD i.toNat 0).toNat):=by
 refine Sp.vz c.b8 λ_=>?_;simp[g.b8];refine⟨λb=>bK (by omega) ⟨h,?_⟩,λb=>?_⟩
 .have:i.toNat<a.length:=by omega
  simp[*]
 .have:a.length<=i.toNat:=by omega
  simp[this]
def yl(a:List UInt32):zS 314 [.sl (ens a)] (.sl (ens (lb (val a)))):=by
 refine Sp.vz c.az λs=>?_;have o:=FG s.1;simp[g.az];refine b6 (S:=λl:List UInt32=>aB [(0,.p (.sl (ens l)))] []) (I:=λl=>val l=val a/\l.length<=9223372036854775807) (m:=λl=>l.length) a (aA.of (keep:=[0]) (ids:=[]) rfl) ⟨rfl,o⟩ ?_;rintro l ⟨i,u⟩ R r w t;have e:i64.wrap (↑l.length - 1) = ↑l.length - 1:=cT;have j:((l.length:Int) - 1).toNat=l.length - 1:=by omega
 simp[g.xp,aB,e,j];have d:gK l->R (Exit.exit 0) ⟨[(0,.p (.sl (ens l)))],[(aO,[none])]⟩:=λn=>by refine t _ _ ?_;simp;rw[<- i,wD n]
 refine⟨λh=>bK (by omega) ⟨by omega,λf=>⟨by omega,r (l.take (l.length - 1)) _ (aA.of (keep:=[0]) (ids:=[]) rfl) ?_ ?_⟩,λf=>d ?_⟩,λh=>d ?_⟩
 .refine⟨?_,by simp;omega⟩;have k:l=l.take (l.length - 1)++[0]:=by
   conv=>lhs;rw[<- List.take_append_getLast l (by intro b;simp[b]at h)]
   rw[List.getLast_eq_getElem,ye (x:=l[l.length - 1]) (y:=0) (by simpa using f)]
  rw[k,AZ]at i;simpa using i
 .simp;omega
 .intro b;rw[List.getLast?_eq_getElem?,dO (by omega)]at b;simp at b;rw[b]at f;exact f rfl
 .subst h;simp[gK]
def Cx(a b:List UInt32):zS 264 [.sl (ens a),.sl (ens b)] (.int .i64 (kS (val a) (val b))):=by
 refine Sp.vz c.fb λn=>?_;have F:=FG n.1;have w:=FG n.2.1;simp[g.fb];have e:i64.wrap ((if a.length<b.length then(b.length:Int)else a.length) - 1)=((max a.length b.length:Nat):Int) - 1:=by rw[cL (by split<;>omega) (by split<;>omega)];split<;>omega
 simp only[e];refine b6 (S:=λk:Nat=>aB [(0,.p (.sl (ens a))),(1,.p (.sl (ens b))),(5,.p (.int .i64 ((k:Int) - 1)))] []) (I:=λk=>k<=max a.length b.length/\val a / 4294967296^k=val b / 4294967296^k) (m:=λk=>k) (max a.length b.length) (aA.of (keep:=[0,1,5]) (ids:=[]) rfl) ⟨dE _,by rw[I1 _ (by omega),I1 _ (by omega)]⟩ ?_;rintro k ⟨E,j⟩ R z B C;simp[g.xe,aB];refine⟨λu=>?_,λu=>?_⟩
 .refine dC (vV _ _ (by omega)) rfl ?_;simp;refine dC (vV _ _ (by omega)) rfl ?_;simp;have D:((k:Int) - 1).toNat=k - 1:=by omega
  have s:i64.wrap ((k:Int) - 1 - 1)=((k - 1:Nat):Int) - 1:=by rw[cL];omega
  have d:=IZ a (k - 1);have f:=IZ b (k - 1);rw[show k - 1+1=k by omega]at d f;have o:=jD (a.getD (k - 1) 0);have r:=jD (b.getD (k - 1) 0);simp only[eV]at d f o r;simp only[s];generalize (a[k - 1]?.getD 0).toNat=x at d o ⊢;generalize (b[k - 1]?.getD 0).toNat=y at f r ⊢;refine⟨λt=>z (k - 1) _ (aA.of (keep:=[0,1,5]) (ids:=[]) rfl) ⟨by omega,by omega⟩ (by omega),λA=>B _ ?_⟩;simp;have i:val a / 4294967296^(k - 1)<val b / 4294967296^(k - 1)\/val b / 4294967296^(k - 1)<val a / 4294967296^(k - 1):=by omega
  simp only[wrap_i64];obtain h|h:=i
  .have:=Ix h;rw[kS,aX this];omega
  .have:=Ix h;rw[kS,bD (by omega),bD (by omega)];omega
 .refine C _ _ ?_;simp;have:k=0:=by omega
  subst this;simp at j;simp[kS,j]
def yfa(a b:List UInt32)(N:a.length<=1073741824)(J:b.length<=1073741824):zS 311 [.sl (ens a),.sl (ens b)] (.sl (ens (lb (val a+val b)))):=by
 refine Sp.vz c.p8 λ_=>?_;simp[g.p8]
 refine b6 (S:=λx:Nat × Nat × List UInt32=>aB [(0,.p (.sl (ens a))),(1,.p (.sl (ens b))),(5,.own 1 0 0 x.2.2.length),(6,.p (.int .u64 x.2.1)),(7,.p (.int .i64 x.1))] [(1,⟨1,aK x.2.2⟩)])
  (I:=λx=>x.2.2.length=x.1/\(x.1<=max a.length b.length+1/\(x.1=max a.length b.length+1->x.2.1=0))/\x.2.1<=1/\val x.2.2+4294967296^x.1*x.2.1=val (a.take x.1)+val (b.take x.1)) (m:=λx=>max a.length b.length+1 - x.1) (0,0,[]) (aA.nl 5 1 1 rfl (aA.of (keep:=[0,1,5,6,7]) (ids:=[((1,0),1)]) rfl)) ⟨rfl,⟨by simp,by simp⟩,by simp,by simp⟩ ?_
 rintro⟨i,sum,f⟩ ⟨s,G,H,d⟩ R K Q L;simp at s G H d;simp[g.xn];refine⟨λh=>?_,λh=>⟨λt=>?_,λt=>?_⟩⟩;rotate_left 2
 .refine L _ _ ?_;simp;refine dC (yl f) (by simp) ?_;simp;rw[t]at d;rw[eZ (by omega),eZ (by omega)]at d;simp at d;rw[d]
 all_goals
  refine dC (vV _ _ (by omega)) rfl ?_;simp;refine dC (vV _ _ (by omega)) rfl ?_;simp;have C:=aZ i;have j:=vC a i;have k:=vC b i;have A:=jD (a.getD i 0);have B:=jD (b.getD i 0);simp only[eV]at j k A B;generalize (a[i]?.getD 0).toNat=x at j A ⊢;generalize (b[i]?.getD 0).toNat=y at k B ⊢;have M:max a.length b.length<=i->x=0/\y=0:=λO=>by
   rw[eZ (by omega),eZ (by omega)]at j k;have u:0<4294967296^i:=qZ (by omega);constructor
   .apply Nw;intro o;have:=Cd u o;omega
   .apply Nw;intro o;have:=Cd u o;omega
  have D:((sum:Int)+(↑x + ↑y)) % 18446744073709551616 / 4294967296=(((sum+x+y) / 4294967296:Nat):Int):=by omega
  obtain⟨z,w⟩:∃ z:UInt32,z.toNat=(sum+x+y) % 4294967296:=⟨_,oH _⟩;have E:((sum:Int)+(↑x + ↑y)) % 4294967296=(z.toNat:Int):=by rw[w];omega
  rw[C,D,E];refine⟨by split at h<;>omega,K (i+1,(sum+x+y) / 4294967296,f++[z]) _ (aA.to [0,1,5,6,7] [((34,0),1)] (by simp)) ⟨by simp[s],?_,?_,?_⟩ ?_⟩
  all_goals simp
  .split at h<;>omega
  .omega
  .rw[AZ,w,s,j,k,kJ];have n:sum+x+y=4294967296*((sum+x+y) / 4294967296)+(sum+x+y) % 4294967296:=by omega
   generalize 4294967296^i=p at d ⊢;generalize (sum+x+y) / 4294967296=q at n ⊢;generalize (sum+x+y) % 4294967296=r at n ⊢;have F:p*(sum+x+y)=p*4294967296*q+p*r:=by rw[n,sE,pX]
   rw[sE,sE]at F;omega
  .split at h<;>omega
def Ig(a b:List UInt32)(O:a.length<=1073741824)(t:val b<=val a):zS 312 [.sl (ens a),.sl (ens b)] (.sl (ens (lb (val a - val b)))):=by
 refine Sp.vz c.i9 λ_=>?_;simp[g.i9]
 refine⟨by omega,b6 (S:=λx:Nat × Nat × List UInt32=>aB [(0,.p (.sl (ens a))),(1,.p (.sl (ens b))),(5,.own 1 0 0 a.length),(6,.p (.int .u64 x.2.1)),(13,.p (.int .i64 a.length)),(14,.p (.int .i64 x.1))] [(1,⟨1,aK x.2.2⟩)])
  (I:=λx=>x.2.2.length=a.length/\x.1<=a.length/\x.2.1<=1/\val (x.2.2.take x.1)+val (b.take x.1)=val (a.take x.1)+4294967296^x.1*x.2.1) (m:=λx=>a.length - x.1) (0,0,List.replicate a.length 0)
  (aA.to [0,1,5,6,13,14] [((11,0),1)] (by simp)) ⟨by simp,by simp,by simp,by simp⟩ ?_⟩
 rintro⟨i,d,f⟩ ⟨n,G,H,A⟩ R L Q M;simp at n G H A;simp[g.xo];refine⟨λh=>?_,λh=>?_⟩
 .refine dC (vV _ _ (by omega)) rfl ?_;simp;refine dC (vV _ _ (by omega)) rfl ?_;simp;have D:=aZ i;have u:=vC a i;have w:=vC b i;have s:=jD (a.getD i 0);have C:=jD (b.getD i 0);simp only[eV]at u w s C;generalize (a[i]?.getD 0).toNat=x at u s ⊢;generalize (b[i]?.getD 0).toNat=y at w C ⊢;obtain⟨z,B⟩:∃ z:UInt32,z.toNat=(x+4294967296 - y - d) % 4294967296:=⟨_,oH _⟩;obtain⟨o,j⟩:∃ o:Nat,o=if x<y+d then 1 else 0:=⟨_,rfl⟩
  have E:((x:Int) - ↑y - ↑d) % 18446744073709551616 / 9223372036854775808=(o:Int):=by subst j;split<;>omega
  have F:((x:Int) - ↑y - ↑d) % 4294967296=(z.toNat:Int):=by rw[B];omega
  refine⟨by omega,bK (by omega) ?_⟩;rw[D,E,F];refine L (i+1,o,f.set i z) _ (aA.to [0,1,5,6,13,14] [((1,0),1)] (by simp)) ⟨by simp[n],by simp;omega,by simp;subst j;split<;>omega,?_⟩ ?_
  .simp;rw[VF (by omega),B,u,w,kJ];have N:x+4294967296*o=y+d+(x+4294967296 - y - d) % 4294967296:=by subst j;split<;>omega
   generalize 4294967296^i=p at *
   generalize (x+4294967296 - y - d) % 4294967296=r at *
   grind
  .simp;omega
 .refine M _ _ ?_;have K:i=a.length:=by omega
  subst K;rw[<- n,kK,n,kK,RR (oY t (oW a))]at A;have s:=oW f;rw[n]at s;have k:d=0:=by
   obtain J|J:=pW 0 d
   .have:d=1:=by omega
    subst this;omega
   .omega
  subst k;simp;refine dC (yl f) (by simp[<- n]) ?_;simp;rw[show val f=val a - val b by omega]
def Ef(a b:List UInt32)(hl:a.length<=536870912)(X:b.length<=536870912):zS 271 [.sl (ens a),.sl (ens b)] (.sl (ens (lb (val a*val b)))):=by
 refine Sp.vz c.i7 λ_=>?_;have O:i64.wrap ((a.length:Int)+b.length)=((a.length+b.length:Nat):Int):=cT;simp[g.i7,O];have r:((a.length:Int)+b.length).toNat=a.length+b.length:=by omega
 simp only[r]
 refine⟨by omega,b6 (S:=λx:Nat × List UInt32=>aB [(0,.p (.sl (ens a))),(1,.p (.sl (ens b))),(5,.own 1 0 0 (a.length+b.length)),(16,.p (.int .i64 a.length)),(17,.p (.int .i64 x.1))] [(1,⟨1,aK x.2⟩)])
  (I:=λx=>x.2.length=a.length+b.length/\x.1<=a.length/\val x.2=val (a.take x.1)*val b) (m:=λx=>a.length - x.1) (0,List.replicate (a.length+b.length) 0)
  (aA.to [0,1,5,16,17] [((14,0),1)] (by simp)) ⟨by simp,by simp,by simp[Jb]⟩ ?_⟩
 rintro⟨i,n⟩ ⟨w,W,A⟩ R Y hr hx;simp at w W A;simp[g.xh];refine⟨λh=>?_,λh=>?_⟩
 .refine b6 (S:=λx:Nat × Nat × List UInt32=>aB [(0,.p (.sl (ens a))),(1,.p (.sl (ens b))),(5,.own 1 0 0 (a.length+b.length)),(6,.p (.int .i64 i)),(7,.p (.int .u64 x.2.1)),(8,.p (.int .i64 x.1)),(16,.p (.int .i64 a.length)),(17,.p (.int .i64 i))] [(1,⟨1,aK x.2.2⟩)])
   (I:=λx=>x.2.2.length=a.length+b.length/\x.1<=b.length+1/\x.2.1<4294967296/\val x.2.2+4294967296^i*4294967296^x.1*x.2.1=val (a.take i)*val b+4294967296^i*(a.getD i 0).toNat*val (b.take x.1)) (m:=λx=>b.length+1 - x.1) (0,0,n)
   (aA.to [0,1,5,6,7,8,16,17] [((1,0),1)] (by simp)) ⟨by simp[w],by simp,by simp,by simp[A]⟩ ?_
  rintro⟨j,sum,d⟩ ⟨F,k2,k3,f⟩ R2 C Z E;simp at F k2 k3 f;simp[g.xg];have k:0<sum->j<b.length+1:=λhs=>by
   apply Nat.lt_of_not_le;intro B;have B:j=b.length+1:=by omega
   subst B;rw[Gr b (by omega)]at f;have K:val (a.take i)*val b+4294967296^i*(a.getD i 0).toNat*val b=val (a.take (i+1))*val b:=by rw[vC];grind
   simp only[eV]at K;rw[K]at f;have q2:val (a.take (i+1))<4294967296^(i+1):=iL (oW _) (pV (by omega) (by simp;omega));have q3:=uJ q2 (oW b);have q4:4294967296^(i+1)*4294967296^b.length=4294967296^i*4294967296^(b.length+1):=by rw[<- Nat.pow_add,<- Nat.pow_add];congr 1;omega
   have q5:=JG (4294967296^i*4294967296^(b.length+1)) hs;omega
  refine⟨λg=>?_,λg=>⟨λu=>?_,λu=>?_⟩⟩;rotate_left 2
  .refine E _ _ ?_;simp;have s:=aZ i;rw[s];refine Y (i+1,d) _ (aA.to [0,1,5,16,17] [((1,0),1)] (by simp)) ⟨by simp[F],by simp;omega,?_⟩ (by simp;omega);simp;rw[u,Gr b (by omega)]at f;rw[vC];simp only[eV]
   grind
  all_goals
   have B:j<=b.length:=by first|omega|(have:=k u;omega)
   have H:i64.wrap ((i:Int)+j)=((i+j:Nat):Int):=cT;have t:((i:Int)+j).toNat=i+j:=by omega
   simp[H,t];refine⟨by omega,bK (by omega) ?_⟩;refine fL (vV _ _ (by omega)) rfl ?_;simp;refine fL (vV _ _ (by omega)) rfl ?_;simp;have s:=aZ j;have G:=vC b j;have L:=jD (a.getD i 0);have M:=jD (b.getD j 0);have u2:=jD d[i+j];have N:∀ z,val (d.set (i+j) z)+4294967296^(i+j)*d[i+j].toNat=val d+4294967296^(i+j)*z.toNat:=λz=>by have:=HY d (i+j) z (by omega);simpa[List.getElem?_eq_getElem (show i+j<d.length by omega)]using this
   simp only[eV]at G L M f;rw[H,s,kZ];refine⟨by omega,bK (by omega) ?_⟩;generalize D:(a[i]?.getD 0).toNat=x at L f ⊢;generalize (b[j]?.getD 0).toNat=y at G M ⊢;generalize d[i+j].toNat=o at u2 N ⊢;have ad:x*y<=4294967295*4294967295:=mT (by omega) (by omega);obtain⟨z,J⟩:∃ z:UInt32,z.toNat=(sum+(o+x*y)) % 4294967296:=⟨_,oH _⟩;have Q:((sum:Int)+(o+x*y)) % 18446744073709551616 / 4294967296=(((sum+(o+x*y)) / 4294967296:Nat):Int):=by
    have:((x:Int)*y)=((x*y:Nat):Int):=by simp
    rw[this];omega
   have U:((sum:Int)+(o+x*y)) % 4294967296=(z.toNat:Int):=by
    have:((x:Int)*y)=((x*y:Nat):Int):=by simp
    rw[this,J];omega
   rw[Q,U];refine C (j+1,(sum+(o+x*y)) / 4294967296,d.set (i+j) z) _ (aA.to [0,1,5,6,7,8,16,17] [((1,0),1)] (by simp)) ⟨by simp[F],by simp;omega,by simp;omega,?_⟩ (by simp;omega);simp;have v:=N z;rw[J,rN]at v;rw[G,kJ,D];have V:=GR (sum+(o+x*y)) 4294967296;exact QR v f V
 .refine hx _ _ ?_;simp;refine dC (yl n) (by simp[<- w]) ?_;simp;have:i=a.length:=by omega
  subst this;rw[A,kK]
def Wo(a:List UInt32)(d:UInt32)(N:a.length<=1073741824)(hd:d≠0):zS 316 [.sl (ens a),.int .u32 d.toNat] (.bM [.sl (ens (lb (val a / d.toNat))),.int .u32 (val a % d.toNat:Nat)]):=by
 refine Sp.vz c.qa λ_=>?_;have C:i64.wrap ((a.length:Int) - 1)=(a.length:Int) - 1:=cT;simp[g.qa,C];have b:0<d.toNat:=by
  obtain h|h:=Ci d.toNat
  .exact absurd (ye (by simpa using h)) hd
  .exact h
 have G:=jD d
 refine⟨by omega,b6 (S:=λx:Nat × Nat × List UInt32=>aB [(0,.p (.sl (ens a))),(1,.p (.int .u32 d.toNat)),(6,.own 1 0 0 a.length),(7,.p (.int .u64 x.2.1)),(8,.p (.int .i64 ((x.1:Int) - 1)))] [(1,⟨1,aK x.2.2⟩)])
  (I:=λx=>x.2.2.length=a.length/\x.1<=a.length/\x.2.1<d.toNat/\val (a.drop x.1)=val (x.2.2.drop x.1)*d.toNat+x.2.1) (m:=λx=>x.1) (a.length,0,List.replicate a.length 0)
  (aA.to [0,1,6,7,8] [((11,0),1)] (by simp)) ⟨by simp,by simp,by simpa using b,by simp⟩ ?_⟩
 rintro⟨k,r,q⟩ ⟨n,F,i,j⟩ R J O L;simp at n F i j;simp[g.xq];refine⟨λh=>?_,λh=>?_⟩
 .have M:((k:Int) - 1).toNat=k - 1:=by omega
  have D:i64.wrap ((k:Int) - 1 - 1)=((k - 1:Nat):Int) - 1:=by rw[cL];omega
  simp only[D];refine bK (by omega) ⟨by omega,?_⟩;have o:=jD a[k - 1];have t:a.drop (k - 1)=a[k - 1]::a.drop k:=by rw[vJ (by omega)];congr 1;rw[show k - 1+1=k by omega]
  generalize a[k - 1]=x at o t ⊢;have A:=Ng (r:=r) (x:=x.toNat) (k:=32) (by omega) (by omega) (by omega);simp only[show(2:Int)^32=4294967296 from rfl,show(2:Nat)^32=4294967296 from rfl]at A;rw[A,Jd,T1];refine⟨by omega,by omega,bK (by omega) ⟨by omega,?_⟩⟩;obtain⟨z,s⟩:∃ z:UInt32,z.toNat=(r*4294967296+x.toNat) / d.toNat % 4294967296:=⟨_,oH _⟩;have K:(r*4294967296+x.toNat) / d.toNat<4294967296:=by rw[Da b];have:(r+1)*4294967296<=d.toNat*4294967296:=jU _ i;rw[oI 4294967296];omega
  rw[uM K]at s;have E:(((r*4294967296+x.toNat) / d.toNat:Nat):Int) % 4294967296=(z.toNat:Int):=by rw[s];omega
  rw[E];refine J (k - 1,(r*4294967296+x.toNat) % d.toNat,q.set (k - 1) z) _ (aA.to [0,1,6,7,8] [((1,0),1)] (by simp)) ⟨by simp[n],by simp;omega,by simp;exact Ad _ b,?_⟩ (by simp;omega);simp;have B:(q.set (k - 1) z).drop (k - 1)=z::q.drop k:=by rw[vJ (by simp;omega)];simp;rw[show k - 1+1=k by omega,Jy (by omega)]
  rw[t,B,sQ,sQ,j,s];have y:=GR (r*4294967296+x.toNat) d.toNat;generalize (r*4294967296+x.toNat) / d.toNat=u at y ⊢;generalize (r*4294967296+x.toNat) % d.toNat=w at y ⊢
  grind
 .refine L _ _ ?_;have H:k=0:=by omega
  subst H;simp at j;simp;refine dC (yl q) (by simp[<- n]) ?_;have f:(val a / d.toNat=val q/\val a % d.toNat=r):=by
   rw[j];constructor
   .rw[oI,Nat.mul_add_div b,Ac i];omega
   .rw[oI,Nat.mul_add_mod,uM i]
  simp;rw[f.1];have:=f.2;refine⟨rfl,?_⟩;rw[<- this];omega
def Xt{v p r A a x s w u d q:Nat}(j:v+p*r=A*a)(b:4294967296*u+w=x*s+r)(f:p=d*q)(h:a=d*s):v+p*w+p*4294967296*u=(A+q*x)*a:=by
 have i:p*(4294967296*u+w)=p*(x*s+r):=by rw[b]
 subst f h;simp only[sE,pX,oI,Nat.mul_left_comm]at *
 omega
def HI(a:List UInt32)(k:Nat)(X:a.length+k<=1073741824):zS 355 [.sl (ens a),.int .i64 k] (.sl (ens (lb (val a*2^k)))):=by
 refine Sp.vz c.jc λ_=>?_;have B:i64.wrap ((k:Int) / 32)=((k / 32:Nat):Int):=by rw[cL];omega
 have C:i64.wrap (((k / 32:Nat):Int)+a.length)=((k / 32+a.length:Nat):Int):=by rw[cL];omega
 have D:i64.wrap (((k / 32+a.length:Nat):Int)+1)=((k / 32+a.length+1:Nat):Int):=by rw[cL];omega
 simp[g.jc];rw[B,C,D]
 refine⟨⟨by omega,by omega,by omega,by omega⟩,b6 (S:=λx:Nat × Nat × List UInt32=>aB [(1,.p (.int .i64 k)),(5,.own 1 0 0 (k / 32+x.1)),(6,.p (.int .u64 x.2.1)),(18,.p (.sl (ens a))),(19,.p (.int .i64 a.length)),(20,.p (.int .i64 x.1))] [(1,⟨1,aK x.2.2⟩)])
  (I:=λx=>x.2.2.length=k / 32+x.1/\x.1<=a.length/\x.2.1<2^(k % 32)/\val x.2.2+4294967296^(k / 32+x.1)*x.2.1=val (a.take x.1)*2^k) (m:=λx=>a.length - x.1) (0,0,List.replicate (k / 32) 0)
  (aA.to [1,5,6,18,19,20] [((17,0),1)] (by simp;omega)) ⟨by simp,by simp,by simp;exact qZ (by omega),by simp[Jb]⟩ ?_⟩
 rintro⟨i,r,f⟩ ⟨b,L,A,j⟩ R O Y V;simp at b L A j;simp[g.xt];have K:((k:Int)).tmod 32=((k % 32:Nat):Int):=Jd k 32;have E:((k % 32:Nat):Int).toNat.min 64=k % 32:=uN (by rw[kZ];omega);have U:=Gb (s:=k % 32) (Ad _ (by omega));have N:=Gv k;rw[K,E];refine⟨λh=>bK h ⟨by omega,⟨by omega,by omega⟩,?_⟩,λh=>?_⟩
 .have t:=jD a[i];have y:=vC a i;simp[h]at y;generalize a[i]=x at t y ⊢;have W:x.toNat*2^(k % 32)<=4294967295*2147483648:=mT (by omega) U;have Q:=yft (r:=x.toNat) (x:=r) (k:=k % 32) (by omega) A (by omega);rw[Q];have F:=aZ i;obtain⟨z,d⟩:∃ z:UInt32,z.toNat=(x.toNat*2^(k % 32)+r) % 4294967296:=⟨_,oH _⟩;have G:((x.toNat*2^(k % 32)+r:Nat):Int) / 4294967296=(((x.toNat*2^(k % 32)+r) / 4294967296:Nat):Int):=by omega
  have n:((x.toNat*2^(k % 32)+r:Nat):Int) % 4294967296=(z.toNat:Int):=by rw[d];omega
  have o:(x.toNat*2^(k % 32)+r) / 4294967296<2^(k % 32):=by rw[Da (by omega)];have:(x.toNat+1)*2^(k % 32)<=4294967296*2^(k % 32):=jU _ (by omega);rw[sT]at this;omega
  rw[F,G,n];refine O (i+1,(x.toNat*2^(k % 32)+r) / 4294967296,f++[z]) _ (aA.to [1,5,6,18,19,20] [((35,0),1)] (by simp;omega)) ⟨by simp[b];omega,by simp;omega,by simpa using o,?_⟩ (by simp;omega);simp;have H:=Nat.div_add_mod (x.toNat*2^(k % 32)+r) 4294967296;rw[AZ,b,d,y,show k / 32+(i+1)=k / 32+i+1 by omega,Nat.pow_succ];have J:4294967296^(k / 32+i)=4294967296^(k / 32)*4294967296^i:=Nat.pow_add _ _ _;generalize (x.toNat*2^(k % 32)+r) / 4294967296=u at *
  generalize (x.toNat*2^(k % 32)+r) % 4294967296=w at *
  exact Xt j H J N
 .refine V _ _ ?_;have M:i=a.length:=by omega
  subst M;simp;obtain⟨z,d⟩:∃ z:UInt32,z.toNat=r % 4294967296:=⟨_,oH _⟩;have n:(r:Int) % 4294967296=(z.toNat:Int):=by rw[d];omega
  rw[n];refine⟨⟨by omega,by omega⟩,dC (yl (f++[z])) (kX (uF rfl (by simp) (by simp[b])) pS) ?_⟩;simp;rw[AZ,d,b];rw[kK]at j;rw[uM (by omega),j]
def yae(a:List UInt32)(k:Nat)(X:a.length<=1073741824)(W:k<4294967296):zS 356 [.sl (ens a),.int .i64 k] (.sl (ens (lb (val a / 2^k)))):=by
 refine Sp.vz c.qf λ_=>?_;obtain⟨q,Q⟩:∃ q,k / 32=q:=⟨_,rfl⟩;obtain⟨s,B⟩:∃ s,k % 32=s:=⟨_,rfl⟩;have F:i64.wrap ((k:Int) / 32)=(q:Int):=by rw[cL];omega
 simp[g.qf];rw[F];obtain⟨A,t⟩:∃ A,A=val (a.drop q) / 2^s:=⟨_,rfl⟩
 refine b6 (S:=λx:Nat × List UInt32=>aB [(0,.p (.sl (ens a))),(1,.p (.int .i64 k)),(5,.own 1 0 0 x.1),(6,.p (.int .i64 ((q:Int)+x.1)))] [(1,⟨1,aK x.2⟩)])
  (I:=λx=>x.2.length=x.1/\(q+x.1<=a.length\/x.1=0)/\val x.2=A % 4294967296^x.1) (m:=λx=>a.length - (q+x.1)) (0,[]) (aA.nl 5 1 1 rfl (aA.to [0,1,5,6] [((1,0),1)] (by simp))) ⟨rfl,by simp,by simp[Nat.mod_one]⟩ ?_
 rintro⟨j,b⟩ ⟨d,N,o⟩ R O Y V;simp at d N o;simp[g.xu];have L:((k:Int)).tmod 32=(s:Int):=by rw[<- B];exact Jd k 32
 have G:s.min 64=s:=uN (by omega);have U:=Gb (s:=s) (by omega);refine⟨λh=>?_,λh=>?_⟩
 .have M:i64.wrap ((q:Int)+j+1)=(q:Int)+j+1:=by rw[cL]
  have K:((q:Int)+j+1).toNat=q+j+1:=by omega
  have n:((q:Int)+j).toNat=q+j:=by omega
  rw[M];refine dC (vV _ _ (by omega)) rfl ?_;simp;refine dC (vV _ _ (by omega)) rfl ?_;simp;rw[L,K,n,cL];have f:=RQ a (q+j);have i:=RQ a (q+j+1);have D:=jD (a.getD (q+j) 0);have E:=jD (a.getD (q+j+1) 0);simp only[eV]at f i D E;generalize (a[q+j]?.getD 0).toNat=x at f D ⊢;generalize (a[q+j+1]?.getD 0).toNat=y at i E ⊢;have w:=Ng (r:=y) (x:=x) (k:=32) (by omega) (by omega) (by omega);simp only[show(2:Int)^32=4294967296 from rfl,show(2:Nat)^32=4294967296 from rfl]at w;rw[w,kZ,G];obtain⟨z,C⟩:∃ z:UInt32,z.toNat=(y*4294967296+x) / 2^s % 4294967296:=⟨_,oH _⟩;have H:((y*4294967296+x:Nat):Int) / 2^s % 4294967296=(z.toNat:Int):=by rw[C];simp
  rw[H];refine⟨by omega,by omega,O (j+1,b++[z]) _ (aA.to [0,1,5,6] [((30,0),1)] (by simp;omega)) ⟨by simp[d],by simp;omega,?_⟩ (by simp;omega)⟩;simp;have J:A / 4294967296^j=val (a.drop (q+j)) / 2^s:=by rw[t,NH,oI,<- Nat.div_div_eq_div_mul,HX,uQ]
  rw[AZ,d,o,C,Nat.mod_pow_succ,J,f,i,Vd _ _ _ _ (by omega)]
 .refine V _ _ ?_;simp;refine dC (yl b) (kX (uF rfl rfl d.symm) pS) ?_;simp;have:val a / 2^k=A:=by rw[Gv k,Q,B,<- Nat.div_div_eq_div_mul,HX,t]
  rw[this,o,uM];have u:=oW (a.drop q);rw[lp]at u;refine oY (t ▸ Cc _ _) (iL u (pV (by omega) (by omega)))
open Enc (enc)
def gN{α : Type}(p : α -> Bool)(l:List α):Int:=match l.findIdx? p with|some i=>i|none =>-1
section
variable {α : Type} {p : α -> Bool} {l:List α}
def Gj(h:∀ x∈l,p x=false):gN p l = -1:=by unfold gN;rw[GQ.2 h]
def FD{k:Nat}(b:k<l.length)(h:∀ x∈l.take k,p x=false)(a:p l[k]=true):gN p l=k:=by
 unfold gN;have:l.findIdx? p=some k:=by rw[GP];refine⟨b,a,λj d=>?_⟩;have:=h l[j] (by rw[List.mem_take_iff_getElem];exact⟨j,by omega,rfl⟩);simp[this]
 rw[this]
theorem MO:(decide (0<=gN p l))=l.any p:=by
 unfold gN;cases h:l.findIdx? p with
 | none =>
  have:=GQ.1 h;simp;exact λx b=>this x b
 | some i =>
  obtain⟨d,a,_⟩:=GP.1 h;simp;exact⟨l[i],bU _,a⟩
end
def yn(st:St)(l:List PV):(l.map AV.p).mapM (bH st bF)=some l:=Se 5 st l
theorem Sp.oO{P:Program}{f:FuncId}{r:RV}(i:Sp P f [.nl] r)(j:Sp P f [.sle] r):Sp P f [.sl []] r:=by
 refine⟨i.1,λw M vals d k=>?_⟩;cases k with
 | cons _ x _ xs m h =>
  cases h;cases m with
  | rB a cap =>
   cases a with
   | none=>exact i.2 w M _ d (.cons _ _ _ _ (.nl cap) .nil)
   | some a=>exact j.2 w M _ d (.cons _ _ _ _ (.sle a cap) .nil)
  | sl _ b o cap=>exact j.2 w M _ d (.cons _ _ _ _ (.sle _ cap) .nil)
@[simp] abbrev f8(n:Int):AV:=.p (.int .i64 n)
@[simp] abbrev g6(n:Int):PV:=.int .i64 n
@[simp] abbrev i4(b:Bool):AV:=.p (.bool b)
@[simp] abbrev i0(n:Nat):AV:=.ptr n 0 0 0
@[simp] abbrev hW{α : Type}[Enc α](l:List α):AV:=.p (.sl (ens l))
attribute [simp] iJ bP.aY
def mO(n:Nat):Nat:=if n=0 then 0 else Nat.log2 n+1
def len8:List UInt8:=[0,1,2,2,3,3,3,3,4,4,4,4,4,4,4,4,5,5,5,5,5,5,5,5,5,5,5,5,5,5,5,5,6,6,6,6,6,6,6,6,6,6,6,6,6,6,6,6,6,6,6,6,6,6,6,6,6,6,6,6,6,6,6,6,7,7,7,7,7,7,7,7,7,7,7,7,7,7,7,7,7,7,7,7,7,7,7,7,7,7,7,7,7,7,7,7,7,7,7,7,7,7,7,7,7,7,7,7,7,7,7,7,7,7,7,7,7,7,7,7,7,7,7,7,7,7,7,7]++List.replicate 128 8
def ybe:∀ n,n<256->len8[n]?=some (UInt8.ofNat (mO n)):=by decide +kernel
def Ei{n m:Nat}:mO n<=m ↔ n<2^m:=by
 unfold mO;split
 .rename_i h;subst h;simp[Nat.two_pow_pos]
 .rename_i h;rw[<- Nat.log2_lt h];omega
def Iv{n k:Nat}(h:2^k<=n):mO n=k+mO (n / 2^k):=by
 have a:∀ m,mO n<=m ↔ k+mO (n / 2^k)<=m:=by
  intro m;rw[Ei];by_cases d:k<=m
  .have:k+mO (n / 2^k)<=m ↔ mO (n / 2^k)<=m - k:=by omega
   rw[this,Ei,Da (Nat.two_pow_pos k),<- Nat.pow_add,Nat.sub_add_cancel d]
  .have:2^m<=2^k:=pV (by omega) (by omega);constructor
   .intro b;omega
   .intro b;omega
 have f:=(a (mO n)).1 (dE _);have b:=(a (k+mO (n / 2^k))).2 (dE _);omega
def yf7(n:Nat)(h:n<256):∃ b:UInt8,len8[n]?=some b/\b.toNat=mO n:=by refine⟨_,ybe n h,?_⟩;have:mO n<=8:=Ei.2 (by omega);simp[UInt8.toNat_ofNat'];omega
def Ts:(Ow lw).data.toList=len8:=by decide +kernel
def Xu(x:UInt32):zS 399 [.int .u32 x.toNat] (g6 (mO x.toNat)):=by
 have H:=x.toNat_lt;generalize x.toNat=n at *
 have a:∀ (m k:Nat),m<256->mO n=k+mO m->∀ (z:Int),z=m->∃ e,len8[z.toNat]?=some e/\(0<=z)/\i64.wrap (e.toNat:Int)=e.toNat/\∀ t:Int,t=k->i64.wrap (t+e.toNat)=(mO n:Nat):=by intro m k D G z F;subst F;obtain⟨b,s,o⟩:=yf7 m D;have:mO m<=8:=Ei.2 (by omega);have E:mO n<=32:=Ei.2 (by omega);exact⟨b,by simpa using s,by omega,cL,λt C=>by rw[cL];omega⟩
 refine Sp.vz c.jd λ_=>?_;simp[g.jd,Ts];refine⟨λs=>⟨λo=>?_,λo=>?_⟩,λs=>⟨λo=>?_,λo=>?_⟩⟩
 .have j:mO n=24+mO (n / 65536 / 256):=by have w:=Iv (n:=n) (k:=16) (by omega);have y:=Iv (n:=n / 2^16) (k:=8) (by omega);simp only[Nat.reducePow]at w y;omega
  obtain⟨e,d,f,h,i⟩:=a (n / 65536 / 256) 24 (by omega) j ((n:Int) / 65536 / 256 % 256) (by omega);rw[lM];refine⟨e,d,?_⟩;have r:i64.wrap 24=24:=cT;simp[f,r,h,i 24 rfl]
 .have j:mO n=16+mO (n / 65536):=Iv (n:=n) (k:=16) (by omega);obtain⟨e,d,f,h,i⟩:=a (n / 65536) 16 (by omega) j ((n:Int) / 65536 % 256) (by omega);rw[lM];refine⟨e,d,?_⟩;simp[f,h,i 16 rfl]
 .have j:mO n=8+mO (n / 256):=Iv (n:=n) (k:=8) (by omega);obtain⟨e,d,f,h,i⟩:=a (n / 256) 8 (by omega) j ((n:Int) / 256 % 256) (by omega);rw[lM];refine⟨e,d,?_⟩;have A:i64.wrap 8=8:=cT;simp[f,A,h,i 8 rfl]
 .obtain⟨e,d,f,h,i⟩:=a n 0 (by omega) (by omega) ((n:Int) % 256) (by omega);have u:=i 0 rfl;rw[Int.zero_add,h]at u;have E:mO n<=32:=Ei.2 (by omega);have B:i64.wrap ((mO n:Nat):Int)=(mO n:Nat):=cT;rw[lM];refine⟨e,d,?_⟩;simp[f,u,B]
def ybl(l:List Int)(f:FuncId)(a:List PV)(p:Int->Bool)(s:l.length<=4611686018427387904)(j:∀ x∈l,Sp P f (enc x::a) (.pure (.bool (p x)))) :
  zS 180 [.sl (ens l),.fn f a] (g6 (gN p l)):=by
 refine Sp.vz c.o9 λ_=>?_;simp[g.o9]
 refine b6 (S:=λk:Nat=>aB [(0,hW l),(1,.p (.fn f a)),(7,f8 l.length),(8,f8 k)] []) (I:=λk=>k<=l.length/\∀ x∈l.take k,p x=false) (m:=λk=>l.length - k) 0
  (aA.to [0,1,7,8] [] (by simp)) ⟨by omega,by simp⟩ ?_
 rintro k ⟨r,h⟩ R n o b;have i:=aZ k;simp[g.ww,aB];refine⟨λd=>?_,λd=>b _ _ ?_⟩
 .refine bK d ?_
  try simp
  refine bA (j l[k] (bU d)) (kX rfl (yn _ _)) ?_;obtain h3|h3:=iK (p l[k])
  .simp[h3];refine o _ ?_;simp[FD d h h3]
  .simp[h3,i];refine n (k+1) _ (aA.to [0,1,7,8] [] (by simp)) ⟨by omega,λx b=>?_⟩ (by omega);rw[ed d]at b;obtain b|b:=dN.1 b
   .exact h x b
   .simp at b;rw[b];exact h3
 .have:k=l.length:=by omega
  subst this;simp[Gj (p:=p) (l:=l) (by simpa using h)]
def ygm(l:List Int)(f:FuncId)(a:List PV)(p:Int->Bool)(d:l.length<=4611686018427387904)(b:∀ x∈l,Sp P f (enc x::a) (.pure (.bool (p x)))) :
  zS 140 [.sl (ens l),.fn f a] (.bool (l.any p)):=by
 refine Sp.vz c.ol λ_=>?_;simp[g.ol];refine bA (ybl l f a p d b) rfl ?_;simp[MO]
theorem VI(l:List UInt32)(a:l.length<=2147483648):zS 313 [.sl (ens l)] (.sl (ens l)):=by
 cases l with
 | nil =>
  refine Sp.oO ?_ ?_
  .refine Sp.vz c.b9 λ_=>?_;simp[g.b9]
  .refine Sp.vz c.b9 λ_=>?_;simp[g.b9,eL]
 | cons x l =>
  refine Sp.vz c.b9 λ_=>?_;simp at a;simp[g.b9,eL,a]
theorem Qp(l:List Int)(a:l.length<=2147483648):zS 62 [.sl (ens l)] (.sl (ens l)):=by
 cases l with
 | nil =>
  refine Sp.oO ?_ ?_
  .refine Sp.vz c.bp λ_=>?_;simp[g.bp]
  .refine Sp.vz c.bp λ_=>?_;simp[g.bp,eL]
 | cons x l =>
  refine Sp.vz c.bp λ_=>?_;simp at a;simp[g.bp,eL,a]
def u'(n:Nat):Nat:=if n=0 then 0 else Nat.log2 n+1
def R0{x:Nat}(h:x<4294967296):u' x<=32:=by
 unfold u';split
 .omega
 .have:=(Nat.log2_lt (n:=x) (k:=32) (by assumption)).2 h;omega
def ycv{x:Nat}(h:x≠0):1<=u' x:=by unfold u';rw[bD h];omega
def ybf(x:UInt32):zS 399 [.int .u32 x.toNat] (g6 (u' x.toNat)):=Xu x
def Rs(l:List UInt32)(a:l.length<=2147483648):zS 313 [.sl (ens l)] (.sl (ens l)):=VI l a
def Zi(x:UInt32):zS 383 [.int .u32 x.toNat] (g6 (32 - u' x.toNat:Int)):=by refine Sp.vz c.qi λ_=>?_;have:=R0 (jD x);simp[g.qi];refine dC (ybf x) rfl ?_;simp;rw[cL]
def Xv(a:List UInt32)(o:a.length<=16777216)(b:a≠[])(j:gK a):∃ s:Nat,s<=31/\zS 354 [.sl (ens a)] (g6 (32*a.length - s:Int)):=by
 have r:0<a.length:=Dd.2 b;have k:a[a.length - 1].toNat≠0:=λh=>j (by
  rw[List.getLast?_eq_getElem?,List.getElem?_eq_getElem (by omega)];exact congrArg some (ye (by simpa using h)))
 have m:=R0 (jD a[a.length - 1]);have n:=ycv k;refine⟨32 - u' a[a.length - 1].toNat,by omega,?_⟩;refine Sp.vz c.qe λ_=>?_;have d:i64.wrap ((a.length:Int) - 1)=(a.length:Int) - 1:=cT;have f:i64.wrap (32*(a.length:Int))=32*(a.length:Int):=cT;have i:((a.length:Int) - 1).toNat=a.length - 1:=by omega
 simp[g.qe,b,d,f,i];refine bK (by omega) ⟨by omega,dC (Zi _) rfl ?_⟩;simp;rw[cL];omega
def KH(a b:List UInt32)(hl:a.length<=4194304)(cu:b.length<=4194304)(hb:val b≠0)(bo:gK b):zS 309 [.sl (ens a),.sl (ens b)] (.bM [.sl (ens (lb (val a / val b))),.sl (ens (lb (val a % val b)))]):=by
 refine Sp.vz c.lr λ_=>?_;have h0:b≠[]:=λh=>hb (by rw[h];rfl);obtain⟨s,hs,ag⟩:=Xv b (by omega) h0 bo;have e1:i64.wrap (32*(b.length:Int))=32*(b.length:Int):=cT;simp[g.lr,e1];refine⟨λh1=>?_,λh1=>?_⟩
 .obtain⟨d,rfl⟩:∃ d,b=[d]:=Jx.1 (by omega);simp at hb;refine bK (by simp) ?_;have hd:d≠0:=λh=>hb (by rw[h];rfl);refine dC (Wo a d (by omega) hd) (by simp) ?_;simp;have e7:((val a:Int) % d.toNat)=((UInt32.ofNat (val a % d.toNat)).toNat:Int):=by have:=Ad (val a) (y:=d.toNat) (by omega);have:=jD d;rw[oH,uM (by omega)];simp
  rw[e7];generalize hz:UInt32.ofNat (val a % d.toNat)=z;refine dC (yl [z]) (kX (uF rfl (by simp) (by simp)) pS) ?_;simp;have:=Ad (val a) (y:=d.toNat) (by omega);have:=jD d;rw[<- hz,oH,uM (a:=val a % d.toNat) (by omega)]
 .have N:val b*2^s≠0:=yr2 hb (GO.1 (qZ (by omega)));have cw:=Gb (s:=s) (by omega);have ca:=nR (n:=val a*2^s) (k:=a.length+1) (by rw[kJ];exact uJ (oW a) (by omega));have cc:=nR (n:=val b*2^s) (k:=b.length+1) (by rw[kJ];exact uJ (oW b) (by omega));have L:=MB N;have Z:=uB (val a*2^s);have B:=Mh N;have H:val a / val b=val a*2^s / (val b*2^s)/\val a % val b=val a*2^s % (val b*2^s) / 2^s:=by have hp:0<2^s:=qZ (by omega);rw[Nat.mul_mod_mul_right,Nat.mul_div_cancel _ hp,Nat.mul_div_mul_right _ _ hp];exact⟨rfl,rfl⟩
  refine dC ag rfl ?_;have e3:i64.wrap (32*(b.length:Int) - (32*b.length - s))=s:=by rw[cL];omega
  simp[e3];refine dC (HI a s (by omega)) rfl ?_;simp;refine dC (HI b s (by omega)) rfl ?_;simp;rw[H.1,H.2];generalize val a*2^s=X at *
  generalize val b*2^s=V at *
  obtain⟨O,J⟩:∃ n,(lb X).length=n:=⟨_,rfl⟩;obtain⟨f,j⟩:∃ n,(lb V).length=n:=⟨_,rfl⟩;rw[J,j];rw[J]at Z ca;rw[j]at B L cc;obtain⟨K,hK⟩:∃ K,K=O+1 - f:=⟨_,rfl⟩;have e4:i64.wrap (i64.wrap ((O:Int) - f)+1)=(O:Int) - f+1:=by rw[cL (n:=(O:Int) - f) (by omega) (by omega),cL]
  have e5:(if 0<(O:Int) - f+1 then(O:Int) - f+1 else 0)=(K:Int):=by split<;>omega
  rw[e4,e5];simp only[kZ];have e6:i64.wrap (max (K:Int) 0 - 1)=(K:Int) - 1:=by rw[cL];omega
  rw[e6];have hp:∀ k,0<4294967296^k:=λk=>qZ (by omega);have ad:0<V:=by omega
  refine⟨⟨by omega,by omega⟩,b6 (S:=λx:Nat × Nat × List UInt32=>aB [(4,.own 1 0 0 K),(8,f8 s),(9,.p (.sl (ens (lb x.2.1)))),(10,.p (.sl (ens (lb V)))),(11,f8 ((x.1:Int) - 1))] [(1,⟨1,aK (List.replicate x.1 (0:UInt32)++x.2.2)⟩)])
   (I:=λx=>x.1+x.2.2.length=K/\x.2.1<V*4294967296^x.1/\X=x.2.1+V*4294967296^x.1*val x.2.2) (m:=λx=>x.1) (K,X,[])
   (aA.to [4,8,9,10,11] [((49,0),1)] (by simp)) ⟨by simp,?_,by simp⟩ ?_⟩
  .simp;refine iL Z ?_;obtain h|h:=pW (O+1) f
   .rw[show K=0 by omega];simp;exact dM (pV (by omega) (by omega)) B
   .refine dM ?_ (jU _ B);rw[<- Nat.pow_add];exact pV (by omega) (by omega)
  rintro⟨k,U,hi⟩ ⟨h1,F,Y⟩ R hn hr hx;simp at h1 F Y;obtain _|i:=k
  .simp[g.uj];refine hx _ _ ?_;simp at h1 F Y;simp;refine dC (yl hi) (kX (uF rfl (by simp) (by omega)) pS) ?_;simp;refine dC (yae (lb U) s (by have:=nR (n:=U) (k:=f) (Nat.lt_trans F (by rw[<- j];exact uB V));omega) (by omega)) (by simp) ?_;simp;have q1:X / V=val hi:=by rw[Y,JA _ _ ad,Ac F];omega
   have q2:X % V=U:=by rw[Y,Nv,uM F]
   rw[q1,q2];exact⟨rfl,rfl⟩
  .have en:i64.wrap ((i:Int)+f)=(i:Int)+f:=cT;have av:i64.wrap ((i:Int)+f - 1)=(i:Int)+f - 1:=cT;have aw:i64.wrap ((f:Int) - 1)=(f:Int) - 1:=cT;have t0:((i:Int)+f).toNat=i+f:=by omega
   have t1:((i:Int)+f - 1).toNat=i+f - 1:=by omega
   have t2:((f:Int) - 1).toNat=f - 1:=by omega
   have bk:U<4294967296^(i+f - 1+2):=by refine iL F ?_;have:=uB V;rw[j]at this;rw[show i+f - 1+2=f+(i+1) by omega,rN (m:=f)];exact jU _ (Bd this)
   have t:=YM bk;rw[show i+f - 1+1=i+f by omega]at t;have w:=X9 N;rw[j]at w;have D:=ybo (i:=i) B L F;simp[g.uj,j,en];refine dC (vV _ _ (by omega)) rfl ?_;simp[av];refine dC (vV _ _ (by omega)) rfl ?_;simp[aw,j];refine dC (vV _ _ (by omega)) rfl ?_;simp[t0,t2];have u1:=jD ((lb U).getD (i+f) 0);have u2:=jD ((lb U).getD (i+f - 1) 0);simp only[eV]at t w u1 u2;rw[w.1];generalize ((lb U)[i+f]?.getD 0).toNat=x at t u1 ⊢;generalize ((lb U)[i+f - 1]?.getD 0).toNat=y at t u2 ⊢;have ho:=Ng (r:=x) (x:=y) (k:=32) (by omega) (by omega) (by omega);simp only[show(2:Int)^32=4294967296 from rfl,show(2:Nat)^32=4294967296 from rfl]at ho;have cn:U / 4294967296^(i+f - 1)<18446744073709551616:=by omega
   rw[ho,t,T1];have hE:U / 4294967296^(i+f - 1) / (V / 4294967296^(f - 1))<18446744073709551616:=oY (Cc _ _) (by omega);generalize U / 4294967296^(i+f - 1) / (V / 4294967296^(f - 1))=E at hE D ⊢;obtain⟨G,hG⟩:∃ G,G=min E 4294967295:=⟨_,rfl⟩;have eG:(if (4294967295:Int)<(E:Int) % 18446744073709551616 then(4294967295:Int)else(E:Int) % 18446744073709551616)=(G:Int):=by split<;>omega
   rw[eG];rw[<- hG]at D;obtain⟨z,hz⟩:∃ z:UInt32,z.toNat=G:=⟨UInt32.ofNat G,by rw[oH];omega⟩;have ez:(G:Int) % 4294967296=(z.toNat:Int):=by omega
   rw[ez];have ce:¬ (V / 4294967296^(f - 1)=0):=by omega
   refine⟨ce,dC (yl [z]) (kX (uF rfl (by simp) (by simp)) pS) ?_⟩;have ei:i64.wrap (32*(i:Int))=((32*i:Nat):Int):=by rw[cL];omega
   have cx:=nR (n:=z.toNat) (k:=1) (by have:=jD z;omega);simp;refine dC (Ef (lb V) (lb z.toNat) (by omega) (by omega)) (by simp) ?_;simp[ei];have cp:=nR (n:=V*z.toNat) (k:=f+1) (by rw[kJ];exact uJ (by rw[<- j];exact uB V) (jD z));refine dC (HI (lb (V*z.toNat)) (32*i) (by omega)) (by simp) ?_;simp[Ui];have cs:U / (V*4294967296^i)<=z.toNat:=by omega
   refine b6 (S:=λg:Nat=>aB [(4,.own 1 0 0 K),(8,f8 s),(9,.p (.sl (ens (lb U)))),(10,.p (.sl (ens (lb V)))),(11,f8 i),(13,.p (.int .u64 g)),(14,.p (.sl (ens (lb (V*g*4294967296^i)))))] [(1,⟨1,aK (List.replicate (i+1) (0:UInt32)++hi)⟩)])
    (I:=λg=>U / (V*4294967296^i)<=g/\g<=4294967295) (m:=λg=>g) G (aA.to [4,8,9,10,11,13,14] [((1,0),1)] (by simp[hz])) ⟨by omega,by omega⟩ ?_
   rintro o ⟨g1,g2⟩ R2 bx cv cf;simp[g.xm];refine dC (Cx (lb U) (lb (V*o*4294967296^i))) rfl ?_;simp only[DU,go_sem]at *
   simp[ycj];have M:0<V*4294967296^i:=Cd ad (hp i);have Q:V*o*4294967296^i=o*(V*4294967296^i):=by rw[oI V o,pX]
   refine⟨λbu=>?_,λu=>?_⟩
   .have C:U / (V*4294967296^i)<o:=by rw[Da M,<- Q];exact bu
    have ct:0<o:=oY (vI _) C;obtain⟨A,rfl⟩:∃ A,o=A+1:=⟨o - 1,by clear C D g1;omega⟩;simp only[ei];refine dC (HI (lb V) (32*i) (by omega)) (by simp) ?_;simp[Ui];have bt:=nR (n:=V*(A+1)*4294967296^i) (k:=f+1+i) (by
     rw[rN,kJ];exact Nat.mul_lt_mul_of_pos_right (uJ (by rw[<- j];exact uB V) (by omega)) (hp i))
    have af:V*4294967296^i<=V*(A+1)*4294967296^i:=by rw[Q];exact Jw _ (by omega)
    refine dC (Ig (lb (V*(A+1)*4294967296^i)) (lb (V*4294967296^i)) (by omega) (by simpa using af)) (by simp) ?_;simp;refine bx A _ (aA.to [4,8,9,10,11,13,14] [((1,0),1)] ?_) ⟨Nat.le_of_lt_succ C,by clear C D g1;omega⟩ (by simp);have e9:((A:Int)+1 - 1) % 18446744073709551616=A:=by omega
    have ao:V*(A+1)*4294967296^i - V*4294967296^i=V*A*4294967296^i:=by rw[Nat.mul_succ,sT];omega
    simp[ao];omega
   .refine cf _ _ ?_;have br:o=U / (V*4294967296^i):=by
     have:o<=U / (V*4294967296^i):=by rw[Jz M,<- Q];exact u
     omega
    simp;have co:=nR (n:=U) (k:=f+(i+1)) (Nat.lt_of_lt_of_le F (by rw[Nat.pow_add (m:=f)];exact Nat.mul_le_mul_right _ (Nat.le_of_lt (by rw[<- j];exact uB V))));refine dC (Ig (lb U) (lb (V*o*4294967296^i)) (by omega) (by simpa using u)) (by simp) ?_;simp;refine⟨⟨by omega,by omega⟩,?_⟩;rw[lM];refine bK (by simp;omega) ?_;simp;obtain⟨W,cm⟩:∃ W:UInt32,W.toNat=o:=⟨UInt32.ofNat o,by rw[oH];omega⟩;have bb:(o:Int) % 4294967296=(W.toNat:Int):=by omega
    have au:i64.wrap ((i:Int) - 1)=(i:Int) - 1:=cT;rw[bb,au];have al:(List.replicate (i+1) (AV.p (.int .u32 0))).set i (AV.p (.int .u32 W.toNat))=List.replicate i (AV.p (.int .u32 0))++[AV.p (.int .u32 W.toNat)]:=by rw[Jv,C' _ _ (by simp)];simp
    refine hn (i,U - V*o*4294967296^i,W::hi) _ (aA.to [4,8,9,10,11] [((1,0),1)] (by simp[al])) ⟨by simp;omega,?_,?_⟩ (by simp)
    .simp only;rw[Q,br];have:=GR U (V*4294967296^i);have h9:=Ad U M;rw[oI]at this;omega
    .simp only[sQ,cm];rw[Y,sE,<- Nat.mul_assoc,kJ,Q];rw[Q]at u;have ap:V*4294967296^i*o=o*(V*4294967296^i):=oI _ _;have aq:V*(4294967296^i*4294967296)=V*4294967296^i*4294967296:=by rw[pX]
     rw[ap,aq];omega
structure aT where
 neg:Bool
 num:List UInt32
 den:List UInt32
instance:Enc aT:=⟨λx=>.agg [.bool x.neg,.sl (ens x.num),.sl (ens x.den)],3,by decide,λ_=>rfl⟩
@[simp] theorem ynf(x:aT):enc x=.agg [.bool x.neg,.sl (ens x.num),.sl (ens x.den)]:=rfl
@[simp] theorem yjx:Enc.sz aT=3:=rfl
instance (l:List UInt32):Decidable (gK l):=inferInstanceAs (Decidable (¬ _))
def aT.valid(x:aT):Bool :=
 decide (gK x.num)&&decide (gK x.den)&&(if x.num=[]then !x.neg&&decide (x.den=[])else decide (x.den=[]\/(val x.den≠1/\Nat.gcd (val x.num) (val x.den)=1)))
def aT.sm(x:aT)(n:Nat):Prop:=x.num.length<=n/\x.den.length<=n
@[simp] theorem ykl:gK []:=by simp[gK]
def T8(a b:List UInt32)(z:a.length<=4194304)(k:b.length<=4194304)(u:gK a)(w:gK b):zS 266 [.sl (ens a),.sl (ens b)] (.sl (ens (lb (Nat.gcd (val a) (val b))))):=by
 refine Sp.vz c.lh λ_=>?_;simp[g.lh];refine b6 (S:=λx:List UInt32 × List UInt32=>aB [(0,hW x.1),(1,hW x.2)] []) (I:=λx=>x.1.length<=4194304/\x.2.length<=4194304/\gK x.1/\gK x.2/\Nat.gcd (val x.1) (val x.2)=Nat.gcd (val a) (val b)) (m:=λx=>val x.2) (a,b) (aA.of (keep:=[0,1]) (ids:=[]) rfl) ⟨z,k,u,w,rfl⟩ ?_;rintro⟨x,y⟩ ⟨n,j,o,f,i⟩ R A C B;simp at n j o f i;simp[g.xf];refine⟨λh=>?_,λh=>B _ _ ?_⟩
 .have s:val y≠0:=λt=>by rw[<- wD f,t]at h;simp at h
  refine dC (KH x y n j s f) rfl ?_;simp;have d:=Nat.mod_lt (val x) (Nat.pos_of_ne_zero s);have r:=nR (Nat.lt_trans d (oW y));refine A (y,lb (val x % val y)) _ (aA.of (keep:=[0,1]) (ids:=[]) rfl) ⟨j,by simp only;omega,f,tT _,?_⟩ (by simpa using d);simp only[DU];rw[<- i,Nat.gcd_comm (val x),Nat.gcd_rec (val y) (val x),Nat.gcd_comm]
 .subst h;simp at i;simp;rw[<- i,wD o]
def CB:zS 265 [] (.sl (ens [(1:UInt32)])):=by refine Sp.vz c.i6 λ_=>?_;simp[g.i6]
def Qd(a:List UInt32):zS 263 [.sl (ens a)] (.bool (decide (gK a))):=by
 refine Sp.vz c.pn λf=>?_;have j:=FG f.1;have e:i64.wrap (↑a.length - 1) = ↑a.length - 1:=cT;have b:((a.length:Int) - 1).toNat=a.length - 1:=by omega
 simp[g.pn,e,b];refine⟨λh=>by subst h;simp[gK],λh=>?_⟩;have k:=List.length_pos_iff.2 h;refine bK (by omega) ⟨by omega,?_⟩;have i:(a[a.length - 1].toNat=0) ↔ ¬ gK a:=by simp only[gK,List.getLast?_eq_getElem?,List.getElem?_eq_getElem (show a.length - 1<a.length by omega)];simp;exact⟨λh=>ye (by simpa using h),λh=>by rw[h];rfl⟩
 by_cases d:gK a<;>simp[d,i]
def Mp(x:aT)(k:x.sm 4194304):zS 194 [enc x] (.bool x.valid):=by
 obtain⟨i,j⟩:=k;refine Sp.vz c.g8 λ_=>?_;simp[g.g8];refine dC (Qd x.num) rfl ?_;simp;refine⟨λb=>?_,λb=>?_⟩
 .refine dC (Qd x.den) rfl ?_;simp;refine⟨λd=>?_,λd=>?_⟩
  .refine⟨λf=>?_,λf=>⟨λa=>?_,λa=>?_⟩⟩
   .rw[Gg];refine⟨λa=>?_,λa=>?_⟩
    .simp[aT.valid,d,f,a]
    .simp[aT.valid,d,f,a]
   .simp[aT.valid,b,f,a]
   .refine fL CB pS ?_;simp;refine fL (Cx x.den [1]) rfl ?_;simp[F'];refine⟨λh=>?_,λh=>?_⟩
    .simp[aT.valid,b,d,f,a,h]
    .refine fL (T8 x.num x.den i j b d) rfl ?_;simp;refine fL CB pS ?_;simp;refine fL (Cx _ [1]) rfl ?_;simp[F'];simp[aT.valid,b,d,f,a,h]
  .simp[aT.valid,b,d]
 .simp[aT.valid,b]
def lG(a:Bool)(n:Nat):Int:=if a then -(n:Int)else n
def aT.v(x:aT):Rat:=if x.valid then mkRat (lG x.neg (val x.num)) (if x.den=[]then 1 else val x.den)else 0
def cR(q:Rat):aT:=⟨decide (q.num<0),lb q.num.natAbs,if q.den=1 then[]else lb q.den⟩
structure Fr where
 neg:Bool
 n:Nat
 d:Nat
def Fr.e(f:Fr):aT:=⟨f.neg,lb f.n,lb f.d⟩
def Fr.v(f:Fr):Rat:=mkRat (lG f.neg f.n) f.d
def iq(q:Rat):Fr:=⟨decide (q.num<0),q.num.natAbs,q.den⟩
def QK(z:Int):lG (decide (z<0)) z.natAbs=z:=by unfold lG;split<;>simp_all<;>omega
def xw(q:Rat):(iq q).v=q:=by simp[Fr.v,iq,QK,Rat.mkRat_self]
def EA(b:Bool)(n:Nat):(lG b n).natAbs=n:=by unfold lG;split<;>simp
def Wc{x:aT}(h:x.valid=true)(hn:x.num≠[])(hd:x.den≠[]):val x.den≠1/\Nat.gcd (val x.num) (val x.den)=1:=by simp[aT.valid,hn,hd]at h;exact h.2
def LS{l:List UInt32}(h:gK l):val l=0 ↔ l=[]:=⟨λa=>by rw[<- wD h,a];simp,λa=>by rw[a];rfl⟩
def sx{x:aT}(h:x.valid=true):cR x.v=x:=by
 have k:x.v=mkRat (lG x.neg (val x.num)) (if x.den=[]then 1 else val x.den):=by simp[aT.v,h]
 have f:gK x.num/\gK x.den:=by simp[aT.valid]at h;exact⟨h.1.1,h.1.2⟩
 obtain⟨a,num,d⟩:=x;simp only at k f;by_cases o:num=[]
 .subst o;simp[aT.valid]at h;obtain⟨_,rfl,rfl⟩:=h;rw[k];simp[cR,lG]
 .have r:val num≠0:=λm=>o ((LS f.1).1 m);have t:(lG a (val num))≠0:=by unfold lG;split<;>omega
  have i:decide (lG a (val num)<0)=a:=by unfold lG;cases a<;>simp;omega
  by_cases j:d=[]
  .subst j;rw[k];simp only[cH];have e:mkRat (lG a (val num)) 1=((lG a (val num):Int):Rat):=by simp[Rat.mkRat_one]
   rw[e];simp only[cR,Rat.num_intCast,Rat.den_intCast,cH,EA,wD f.1]
   congr 1
  .have b:=Wc h o j;simp only at b;have n:val d≠0:=λm=>j ((LS f.2).1 m);rw[k,bD j];have s:mkRat (lG a (val num)) (val d)=⟨lG a (val num),val d,n,by rw[EA];exact b.2⟩:=by rw[Rat.mk_eq_mkRat]
   rw[s];simp only[cR,bD b.1,EA,wD f.1,wD f.2,i]
def nH(q:Rat):(iq q).d≠0:=q.den_nz
def vD(q:Rat):(cR q).valid=true:=by
 have b:(lb q.num.natAbs=[]) ↔ q.num=0:=by simp
 simp only[aT.valid,cR,decide_true,GN,tT];by_cases a:q.num=0
 .have:q.den=1:=by have:=q.reduced;rw[a]at this;simpa[Nat.Coprime]using this
  have f:=b.2 a;simp[a,this]
 .have f:¬ lb q.num.natAbs=[]:=λh=>a (b.1 h);by_cases d:q.den=1
  .simp[d,a]
  .have i:Nat.gcd q.num.natAbs q.den=1:=q.reduced;simp[d,tT,i,a]
def kW(q:Rat):(cR q).v=q:=by
 rw[aT.v,aX (vD q)];have a:(if (cR q).den=[]then 1 else val (cR q).den)=q.den:=by
  simp only[cR];by_cases b:q.den=1
  .simp[b]
  .have:q.den≠0:=q.den_nz;simp[b,this]
 rw[a];simp only[cR,DU,QK,Rat.mkRat_self]
def IJ{x:aT}(h:x.valid=false):x.v=0:=by simp[aT.v,h]
def yA:cR 0=⟨false,[],[]⟩:=by simp[cR]
def yes{b:Bool}{n g:Nat}(h:g ∣ n):lG b n / (g:Int)=lG b (n / g):=by
 unfold lG;cases b
 .simp
 .simp only[cH];rw[Int.neg_ediv_of_dvd (Int.natCast_dvd_natCast.2 h)];simp
def yer{b:Bool}{n:Nat}(h:n≠0):decide (lG b n<0)=b:=by unfold lG;cases b<;>simp;omega
def Nk{f:Fr}(hd:f.d≠0)(hn:f.n≠0):cR f.v=⟨f.neg,lb (f.n / Nat.gcd f.n f.d),if f.d / Nat.gcd f.n f.d=1 then[]else lb (f.d / Nat.gcd f.n f.d)⟩:=by
 have i:0<Nat.gcd f.n f.d:=Nu _ (by omega);have a:f.v.num=lG f.neg (f.n / Nat.gcd f.n f.d):=by rw[Fr.v,Rat.num_mkRat,bD hd,EA,Nat.gcd_comm,yes (Nat.gcd_dvd_left _ _)]
 have b:f.v.den=f.d / Nat.gcd f.n f.d:=by rw[Fr.v,Rat.den_mkRat,bD hd,EA,Nat.gcd_comm]
 have h:f.n / Nat.gcd f.n f.d≠0:=by have:=Nat.div_pos (Nat.gcd_le_left f.d (by omega:0<f.n)) i;omega
 simp only[cR,a,b,EA,yer h]
def Mm{f:Fr}(hn:f.n=0):f.v=0:=by simp[Fr.v,hn,lG]
def TL:(iq 0).e=⟨false,[],[1]⟩:=by simp[iq,Fr.e,CC]
def L4{x:aT}(h:x.valid=true):(iq x.v).e=⟨x.neg,x.num,if x.den=[]then[1]else x.den⟩:=by have e:=sx h;generalize x.v=q at e;subst e;have:q.den≠0:=q.den_nz;by_cases a:q.den=1<;>simp[iq,Fr.e,cR,a,CC,this]
def Cw(x:aT)(b:x.sm 4194304):zS 268 [enc x] (enc (iq x.v).e):=by
 refine Sp.vz c.fc λ_=>?_;simp[g.fc];refine dC (Mp x b) rfl ?_;simp;rw[Gg];refine⟨λh=>?_,λh=>?_⟩
 .simp;rw[L4 h];refine⟨λa=>?_,λa=>?_⟩
  .refine fL CB pS ?_;simp[a]
  .simp[a]
 .simp;refine dC CB pS ?_;simp[IJ h,TL]
def HE(f:Fr)(hd:f.d≠0)(o:f.e.sm 4194304):zS 270 [enc f.e] (enc (cR f.v)):=by
 obtain⟨i,j⟩:=o;simp only[Fr.e]at i j;refine Sp.vz c.fe λ_=>?_;simp[g.fe,Fr.e];refine⟨λh=>?_,λh=>?_⟩
 .simp[Mm h,yA]
 .have r:=Nu f.d (C9 h);refine fL (Rs _ (by omega)) rfl ?_;simp;refine fL (Rs _ (by omega)) rfl ?_;simp;refine dC (T8 _ _ i j (tT _) (tT _)) rfl ?_;simp;refine dC CB pS ?_;simp;refine dC (Cx _ [1]) rfl ?_;have b:(lb (Nat.gcd f.n f.d)).length<=4194304:=by refine dM (nR (n:=Nat.gcd f.n f.d) (k:=(lb f.n).length) ?_) i;exact oY (Nat.gcd_le_left _ (C9 h)) (uB _)
  rw[Nk hd h];simp[F'];refine⟨λm=>?_,λm=>?_⟩
  .refine dC CB pS ?_;simp;refine dC (Cx _ [1]) rfl ?_;simp[F',m];refine⟨λa=>?_,λa=>?_⟩<;>simp[a]
  .refine dC (KH (lb f.n) (lb (Nat.gcd f.n f.d)) i b (by simp;omega) (tT _)) rfl ?_;simp;refine dC (KH (lb f.d) (lb (Nat.gcd f.n f.d)) j b (by simp;omega) (tT _)) rfl ?_;simp;refine dC CB pS ?_;simp;refine dC (Cx _ [1]) rfl ?_;simp[F'];refine⟨λa=>?_,λa=>?_⟩<;>simp[a]
def jA(f g:Fr):Fr :=
 if f.neg=g.neg then⟨f.neg,f.n*g.d+g.n*f.d,f.d*g.d⟩
 else if g.n*f.d<=f.n*g.d then⟨f.neg,f.n*g.d - g.n*f.d,f.d*g.d⟩else⟨g.neg,g.n*f.d - f.n*g.d,f.d*g.d⟩
def rZ(f g:Fr):Fr:=⟨f.neg != g.neg,f.n*g.n,f.d*g.d⟩
def SQ(b:Bool)(n d:Nat):lG b n*(d:Int)=lG b (n*d):=by unfold lG;cases b<;>simp[Int.neg_mul]
def Fq{f g:Fr}(a:f.d≠0)(b:g.d≠0):(jA f g).v=f.v+g.v:=by
 unfold Fr.v;rw[Rat.mkRat_add_mkRat _ _ a b,SQ,SQ];unfold jA;generalize f.n*g.d=A;generalize g.n*f.d=B;cases h:f.neg<;>cases i:g.neg<;>simp[lG]
 .split<;>simp<;>congr 1<;>omega
 .split<;>simp<;>congr 1<;>omega
 .congr 1;omega
def M9(f g:Fr):(rZ f g).v=f.v*g.v:=by
 unfold Fr.v;rw[Rat.mkRat_mul_mkRat];simp only[rZ]
 congr 1
 unfold lG;cases f.neg<;>cases g.neg<;>simp[Int.neg_mul,Int.mul_neg]
def Fp{f g:Fr}(a:f.d≠0)(b:g.d≠0):(jA f g).d≠0:=by
 have:(jA f g).d=f.d*g.d:=by unfold jA;split<;>(try split)<;>rfl
 rw[this];exact yr2 a b
def sB{x:aT}{n:Nat}(h:x.sm n)(hn:1<=n):(iq x.v).e.sm n:=by
 by_cases a:x.valid=true
 .rw[L4 a];refine⟨h.1,?_⟩;simp only;split
  .simpa using hn
  .exact h.2
 .rw[IJ (by simpa using a),TL];exact⟨by simp,by simpa using hn⟩
def yj{m n a b:Nat}(d:(lb m).length<=a)(f:(lb n).length<=b):(lb (m*n)).length<=a+b:=by refine nR ?_;rw[rN];exact uJ (iL (uB m) (pV (by omega) d)) (iL (uB n) (pV (by omega) f))
def Ls{m n:Nat}(h:m<=n):(lb m).length<=(lb n).length:=nR (oY h (uB n))
def DZ{m n a:Nat}(b:(lb m).length<=a)(d:(lb n).length<=a):(lb (m+n)).length<=a+1:=by refine nR ?_;have:=iL (uB m) (pV (n:=4294967296) (by omega) b);have:=iL (uB n) (pV (n:=4294967296) (by omega) d);rw[kJ];omega
def Fz{f g:Fr}{n:Nat}(j:f.e.sm n)(k:g.e.sm n):(jA f g).e.sm (n+n+1):=by
 obtain⟨a,b⟩:=j;obtain⟨c,d⟩:=k;simp only[Fr.e]at a b c d;have h:=yj a d;have i:=yj c b;have m:=yj b d;unfold jA;split
 .exact⟨DZ h i,by simp only[Fr.e];omega⟩
 .split
  .exact⟨by have:=Ls (Nat.sub_le (f.n*g.d) (g.n*f.d));simp only[Fr.e];omega,by simp only[Fr.e];omega⟩
  .exact⟨by have:=Ls (Nat.sub_le (g.n*f.d) (f.n*g.d));simp only[Fr.e];omega,by simp only[Fr.e];omega⟩
def Kx{f g:Fr}{n:Nat}(a:f.e.sm n)(b:g.e.sm n):(rZ f g).e.sm (n+n):=⟨yj a.1 b.1,yj a.2 b.2⟩
def aT.sm.mono{x:aT}{m n:Nat}(h:x.sm m)(a:m<=n):x.sm n:=⟨dM h.1 a,dM h.2 a⟩
def TK(u w:Fr)(b:u.e.sm 1048576)(f:w.e.sm 1048576):zS 269 [enc u.e,enc w.e] (enc (jA u w).e):=by
 have r:=yj b.1 f.2;have s:=yj f.1 b.2;have t:=yj b.2 f.2;obtain⟨j,k⟩:=b;obtain⟨m,o⟩:=f;simp only[Fr.e]at j k m o;refine Sp.vz c.lk λ_=>?_;simp[g.lk,Fr.e];refine fL (Ef (lb u.n) (lb w.d) (by omega) (by omega)) rfl ?_;simp;refine fL (Ef (lb w.n) (lb u.d) (by omega) (by omega)) rfl ?_;simp;refine fL (Ef (lb u.d) (lb w.d) (by omega) (by omega)) rfl ?_;simp;refine⟨λh=>?_,λh=>?_⟩
 .refine fL (yfa (lb (u.n*w.d)) (lb (w.n*u.d)) (by omega) (by omega)) rfl ?_;simp[h,jA]
 .refine dC (Cx (lb (u.n*w.d)) (lb (w.n*u.d))) rfl ?_;simp[IY];refine⟨λa=>?_,λa=>?_⟩
  .refine fL (Ig (lb (u.n*w.d)) (lb (w.n*u.d)) (by omega) (by simpa using a)) rfl ?_;simp[h,a,jA]
  .refine fL (Ig (lb (w.n*u.d)) (lb (u.n*w.d)) (by omega) (by simp;omega)) rfl ?_;have i:¬ (w.n*u.d<=u.n*w.d):=Nat.not_le.2 a;simp[h,i,jA]
def FJ(x y:aT)(d:x.sm 1048576)(f:y.sm 1048576):zS 199 [enc x,enc y] (enc (cR (x.v+y.v))):=by have a:=sB d (by omega);have b:=sB f (by omega);refine Sp.vz c.ib λ_=>?_;simp[g.ib];refine fL (Cw x (d.mono (by omega))) rfl ?_;simp;refine fL (Cw y (f.mono (by omega))) rfl ?_;simp;refine fL (TK _ _ a b) rfl ?_;simp;refine fL (HE _ (Fp (nH _) (nH _)) ((Fz a b).mono (by omega))) rfl ?_;simp[Fq,nH,xw]
def SN(x y:aT)(f:x.sm 1048576)(h:y.sm 1048576):zS 201 [enc x,enc y] (enc (cR (x.v*y.v))):=by
 have a:=sB f (by omega);have b:=sB h (by omega);have n:=Kx a b;have o:(rZ (iq x.v) (iq y.v)).d≠0:=yr2 (nH _) (nH _);obtain⟨i,j⟩:=a;obtain⟨k,m⟩:=b;simp only[Fr.e]at i j k m;refine Sp.vz c.ky λ_=>?_;simp[g.ky];refine fL (Cw x (f.mono (by omega))) rfl ?_;simp;refine fL (Cw y (h.mono (by omega))) rfl ?_;simp[Fr.e];refine fL (Ef _ _ (by omega) (by omega)) rfl ?_;simp;refine fL (Ef _ _ (by omega) (by omega)) rfl ?_;simp;refine fL (HE (rZ (iq x.v) (iq y.v)) o (n.mono (by omega))) ?_ ?_
 .simp[rZ,Fr.e,bne]
 .simp[M9,xw]
def pF(u:Fr):Fr:=⟨!u.neg,u.n,u.d⟩
def U6(u:Fr):zS 315 [enc u.e] (enc (pF u).e):=by refine Sp.vz c.p9 λ_=>?_;simp[g.p9,pF,Fr.e]
def Na(u:Fr):(pF u).v = - u.v:=by unfold Fr.v pF;rw[Rat.neg_mkRat];congr 1;unfold lG;cases u.neg<;>simp
def yex(x y:aT)(d:x.sm 1048576)(h:y.sm 1048576):zS 274 [enc x,enc y] (enc (cR (x.v - y.v))):=by have a:=sB d (by omega);have i:=sB h (by omega);have b:(pF (iq y.v)).e.sm 1048576:=i;refine Sp.vz c.po λ_=>?_;simp[g.po];refine fL (Cw x (d.mono (by omega))) rfl ?_;simp;refine fL (Cw y (h.mono (by omega))) rfl ?_;simp;refine fL (U6 (iq y.v)) rfl ?_;simp;refine fL (TK (iq x.v) (pF (iq y.v)) a b) rfl ?_;simp;refine fL (HE (jA (iq x.v) (pF (iq y.v))) (Fp (nH _) (nH y.v)) ((Fz a b).mono (by omega))) rfl ?_;have e:=Fq (f:=iq x.v) (g:=pF (iq y.v)) (nH _) (nH y.v);simp[e,xw,Na,TP]
def kM(q:Rat):Int:=if q.num=0 then 0 else if q.num<0 then -1 else 1
def Iq(x:aT)(b:x.sm 4194304):zS 219 [enc x] (g6 (kM x.v)):=by refine Sp.vz c.ej λ_=>?_;simp[g.ej];refine dC (Cw x b) rfl ?_;simp[Fr.e,iq,kM];refine⟨λh=>by simp[h],λh=>⟨λa=>by simp[h,a],λa=>by simp[h];omega⟩⟩
def Sd{n d:Nat}:(lb (n / d)).length<=(lb n).length:=Ls (Cc _ _)
def IF{f:Fr}{n:Nat}(hd:f.d≠0)(h:f.e.sm n):(cR f.v).sm n:=by
 by_cases a:f.n=0
 .rw[Mm a,yA];exact⟨by simp,by simp⟩
 .rw[Nk hd a];refine⟨dM Sd h.1,?_⟩;simp only;split
  .simp
  .exact dM Sd h.2
def Rp(x y:aT)(a:x.sm 1048576)(b:y.sm 1048576):zS 220 [enc x,enc y] (g6 (kM (x.v - y.v))):=by
 have d:=sB a (by omega);have h:=sB b (by omega);have i:(pF (iq y.v)).e.sm 1048576:=h;have j:(cR (x.v - y.v)).sm 4194304:=by have e:=Fq (f:=iq x.v) (g:=pF (iq y.v)) (nH _) (nH y.v);rw[xw,Na,xw,<- Rat.sub_eq_add_neg]at e;rw[<- e];exact IF (Fp (nH _) (nH y.v)) ((Fz d i).mono (by omega))
 refine Sp.vz c.kz λ_=>?_;simp[g.kz];refine dC (yex x y a b) rfl ?_;simp;refine dC (Iq (cR (x.v - y.v)) j) rfl ?_;simp[kW]
def Pk(v:Int)(m : -9223372036854775808<=v)(n:v<=9223372036854775807):zS 310 [g6 v] (.bM [.bool (decide (v<0)),.sl (ens (lb v.natAbs))]):=by
 refine Sp.vz c.p0 λ_=>?_;simp[g.p0];obtain⟨a,i⟩:∃ z:UInt32,z.toNat=v.natAbs % 4294967296:=⟨_,oH _⟩;obtain⟨b,j⟩:∃ z:UInt32,z.toNat=v.natAbs / 4294967296 % 4294967296:=⟨_,oH _⟩;have k:val [a,b]=v.natAbs:=by simp only[sQ,S1,i,j];omega
 refine⟨λh=>?_,λh=>?_⟩
 .have d:(-(v % 18446744073709551616)) % 4294967296=(a.toNat:Int):=by omega
  have f:(-(v % 18446744073709551616)) % 18446744073709551616 / 4294967296 % 4294967296=(b.toNat:Int):=by omega
  simp only[d,f];refine dC (yl [a,b]) (kX (uF rfl (by simp) (by simp)) pS) ?_;rw[k];simp[h]
 .have d:v % 4294967296=(a.toNat:Int):=by omega
  have f:v % 18446744073709551616 / 4294967296 % 4294967296=(b.toNat:Int):=by omega
  simp only[d,f];refine dC (yl [a,b]) (kX (uF rfl (by simp) (by simp)) pS) ?_;rw[k];simp
def Ps(a b:Int):(⟨decide (a<0) != decide (b<0),a.natAbs,b.natAbs⟩:Fr).v=Rat.divInt a b:=by
 simp only[Fr.v];obtain h|h:=(by omega:b<0\/0<=b)
 .have e:Rat.divInt a b=mkRat (-a) b.natAbs:=by rw[<- Rat.divInt_ofNat,<- Rat.neg_divInt_neg];congr 1;omega
  rw[e];congr 1;unfold lG;by_cases d:a<0<;>simp[d,h]<;>omega
 .have e:Rat.divInt a b=mkRat a b.natAbs:=by rw[<- Rat.divInt_ofNat];congr 1;omega
  have f:¬ b<0:=by omega
  rw[e];congr 1;unfold lG;by_cases d:a<0<;>simp[d,f]<;>omega
def yac(a b:Int)(d : -9223372036854775808<=a/\a<=9223372036854775807)(f : -9223372036854775808<=b/\b<=9223372036854775807) :
  zS 267 [g6 a,g6 b] (.bM [enc (if b=0 then cR 0 else cR (Rat.divInt a b)),g6 (if b=0 then 11 else 0)]):=by
 have i:=nR (n:=a.natAbs) (k:=2) (by omega);have j:=nR (n:=b.natAbs) (k:=2) (by omega);refine Sp.vz c.lj λ_=>?_;simp[g.lj];refine⟨λh=>by simp[h,yA],λh=>?_⟩;refine dC (Pk a d.1 d.2) rfl ?_;simp;refine dC (Pk b f.1 f.2) rfl ?_;simp;refine dC (HE ⟨decide (a<0) != decide (b<0),a.natAbs,b.natAbs⟩ (by simpa using h) ⟨by simp only[Fr.e];omega,by simp only[Fr.e];omega⟩) ?_ ?_
 .simp[Fr.e,bne]
 .simp[Ps,h]
@[simp] theorem ym6(x:UInt32):i64.wrap (x.toNat:Int)=x.toNat:=by have:=x.toNat_lt;exact cL
def FO(a:List UInt32):zS 177 [.sl (ens a)] (.sl (ens (lb (val a)))):=by
 refine Sp.vz c.de λs=>?_;have o:=FG s.1;simp[g.de];refine b6 (S:=λl:List UInt32=>aB [(0,hW l)] []) (I:=λl=>val l=val a/\l.length<=9223372036854775807) (m:=λl=>l.length) a (aA.of (keep:=[0]) (ids:=[]) rfl) ⟨rfl,o⟩ ?_;rintro l ⟨i,u⟩ R r w t;have e:i64.wrap (↑l.length - 1) = ↑l.length - 1:=cT;have j:((l.length:Int) - 1).toNat=l.length - 1:=by omega
 simp[g.wv,aB,e,j];have d:gK l->R (Exit.exit 0) ⟨[(0,hW l)],[(aO,[none])]⟩:=λn=>by refine t _ _ ?_;simp;rw[<- i,wD n]
 refine⟨λh=>bK (by omega) ⟨by omega,λf=>⟨by omega,r (l.take (l.length - 1)) _ (aA.of (keep:=[0]) (ids:=[]) rfl) ?_ ?_⟩,λf=>d ?_⟩,λh=>d ?_⟩
 .refine⟨?_,by simp;omega⟩;have k:l=l.take (l.length - 1)++[0]:=by
   conv=>lhs;rw[<- List.take_append_getLast l (by intro b;simp[b]at h)]
   rw[List.getLast_eq_getElem,ye (x:=l[l.length - 1]) (y:=0) (by simpa using f)]
  rw[k,AZ]at i;simpa using i
 .simp;omega
 .intro b;rw[List.getLast?_eq_getElem?,dO (by omega)]at b;simp at b;rw[b]at f;exact f rfl
 .subst h;simp[gK]
def HJ(a:List UInt32)(i:Int)(h:0<=i):zS 259 [.sl (ens a),g6 i] (.int .u64 (a.getD i.toNat 0).toNat):=by
 refine Sp.vz c.ld λ_=>?_;simp[g.ld];refine⟨λb=>?_,λb=>bK (by omega) ⟨h,?_⟩⟩
 .have:a.length<=i.toNat:=by omega
  simp[this]
 .have:i.toNat<a.length:=by omega
  simp[*]
def Bg(v:Int):Int:=if v<0 then -1 else if 0<v then 1 else 0
def SS(v:Int):zS 260 [g6 v] (g6 (Bg v)):=by refine Sp.vz c.lg λ_=>?_;simp[g.lg,Bg];refine⟨λh=>by omega,λh=>⟨λa=>by split<;>omega,λa=>by split<;>omega⟩⟩
def Q1(v:Nat)(h:v<18446744073709551616):zS 137 [.int .u64 v] (.sl (ens (lb v))):=by
 refine Sp.vz c.oi λ_=>?_;simp[g.oi];obtain⟨d,a⟩:∃ z:UInt32,z.toNat=v % 4294967296:=⟨_,oH _⟩;obtain⟨f,b⟩:∃ z:UInt32,z.toNat=v / 4294967296 % 4294967296:=⟨_,oH _⟩;have k:val [d,f]=v:=by simp only[sQ,S1,a,b];omega
 have i:(v:Int) % 4294967296=(d.toNat:Int):=by omega
 have j:(v:Int) / 4294967296 % 4294967296=(f.toNat:Int):=by omega
 simp only[i,j];refine dC (FO [d,f]) (kX (uF rfl (by simp) (by simp)) pS) ?_;rw[k];simp
def D4(a:List UInt32):zS 176 [.sl (ens a)] (.bool (decide (a=[1]))):=by
 refine Sp.vz c.km λ_=>?_;simp[g.km];refine⟨λh=>?_,λh=>?_⟩
 .obtain⟨d,rfl⟩:∃ d,a=[d]:=Jx.1 (by omega);refine bK (by simp) ?_;simp;by_cases b:d=1
  .subst b;simp
  .have:d.toNat≠1:=λh=>b (ye (by simpa using h));simp[b];omega
 .intro f;subst f;simp at h
def PB{a b:List UInt32}(m:gK a)(i:gK b)(h:a.length<b.length):val a<val b:=by
 have k:=oW a;have d:val b≠0:=λj=>by rw[(LS i).1 j]at h;simp at h
 have f:=Mh d;rw[wD i]at f;exact iL k (dM (pV (by omega) (by omega)) f)
def Ms(a b:List UInt32)(G:a.length<=1073741824)(z:b.length<=1073741824)(r:gK a)(s:gK b):zS 189 [.sl (ens a),.sl (ens b)] (g6 (kS (val a) (val b))):=by
 refine Sp.vz c.ku λ_=>?_;have t:i64.wrap ((a.length:Int) - b.length)=(a.length:Int) - b.length:=cT;have u:i64.wrap ((a.length:Int) - 1)=(a.length:Int) - 1:=cT;simp[g.ku,t,u];refine⟨λd=>?_,λd=>?_⟩
 .have d:a.length=b.length:=by omega
  refine b6 (S:=λk:Nat=>aB [(0,hW a),(1,hW b),(5,f8 ((k:Int) - 1))] []) (I:=λk=>k<=a.length/\val a / 4294967296^k=val b / 4294967296^k) (m:=λk=>k) a.length (aA.of (keep:=[0,1,5]) (ids:=[]) rfl) ⟨dE _,by rw[I1 _ (by omega),I1 _ (by omega)]⟩ ?_;rintro k ⟨F,o⟩ R A C E;have w:((k:Int) - 1).toNat=k - 1:=by omega
  have f:i64.wrap ((k:Int) - 1 - 1)=((k - 1:Nat):Int) - 1\/k=0:=by
   obtain h|h:=Ci k
   .exact .inr h
   .left;rw[cL];omega
  simp[g.w8,aB,w];refine⟨λy=>bK (by omega) ⟨by omega,bK (by omega) ?_⟩,λy=>?_⟩
  .have f:=f.resolve_right (by omega);have j:=IZ a (k - 1);have n:=IZ b (k - 1);rw[show k - 1+1=k by omega]at j n;have H:=jD a[k - 1];have J:=jD b[k - 1];simp[show k - 1<a.length by omega,show k - 1<b.length by omega]at j n;refine⟨by omega,λx=>?_,λB=>bK (by omega) ⟨by omega,bK (by omega) ⟨by omega,?_⟩⟩⟩
   .rw[f];exact A (k - 1) _ (aA.of (keep:=[0,1,5]) (ids:=[]) rfl) ⟨by omega,by omega⟩ (by omega)
   .have D:i64.wrap ((a[k - 1].toNat:Int) - b[k - 1].toNat)=(a[k - 1].toNat:Int) - b[k - 1].toNat:=cT;rw[D];refine fL (SS _) rfl ?_;simp;refine C _ ?_;simp[Bg];have i:val a / 4294967296^(k - 1)<val b / 4294967296^(k - 1)\/val b / 4294967296^(k - 1)<val a / 4294967296^(k - 1):=by omega
    obtain h|h:=i
    .have:=Ix h;simp only[kS];(repeat' split)<;>omega
    .have:=Ix h;simp only[kS];(repeat' split)<;>omega
  .refine E _ _ ?_;have:k=0:=by omega
   subst this;simp at o;simp[kS,o]
 .refine dC (SS _) rfl ?_;simp[Bg];obtain h|h:=pW a.length b.length
  .have:=PB r s h;rw[aX (by omega),kS,aX this]
  .have:=PB s r (by omega);rw[bD (by omega),aX (by omega),kS,bD (by omega),bD (by omega)]
def z26{v a vb s M:Nat}(b:v+4294967296^(M+1)*s=a+vb)(d:a<4294967296^M)(f:vb<4294967296^M):s=0:=by
 rw[kJ]at b;generalize 4294967296^M=p at *
 obtain h|h:=Ci s
 .exact h
 .have:=JG (p*4294967296) h;omega
def WX(l:List UInt32)(i:Nat):val l / 2^i % 2=(l.getD (i / 32) 0).toNat / 2^(i % 32) % 2:=by
 have b:val l / 2^i=val l / 4294967296^(i / 32) / 2^(i % 32):=by rw[Gv i,NH]
 rw[b,CQ];generalize val l / 4294967296^(i / 32)=x;have f:i % 32<32:=Ad _ (by omega);generalize i % 32=s at *
 have h:2^s*2^(32 - s)=4294967296:=by rw[<- Nat.pow_add,show s+(32 - s)=32 by omega]
 have d:2^(32 - s)=2*2^(31 - s):=by rw[show 32 - s=31 - s+1 by omega,kJ];omega
 have e:=GR x 4294967296;have a:x=x % 4294967296+2^s*(2*(2^(31 - s)*(x / 4294967296))):=by rw[<- Nat.mul_assoc 2,<- d,<- Nat.mul_assoc,h];omega
 conv=>lhs;rw[a,JA _ _ (qZ (by omega)),Nv]
def z64(x i:Nat):x / 2^i=2*(x / 2^(i+1))+x / 2^i % 2:=by rw[kJ,<- Nat.div_div_eq_div_mul];omega
def ZB{l:List UInt32}{i Q:Nat}(h:val l=2^(i+1)*Q)(m:i / 32<l.length) :
  (l.getD (i / 32) 0).toNat ||| 2^(i % 32)<4294967296/\∀ z:UInt32,z.toNat=(l.getD (i / 32) 0).toNat ||| 2^(i % 32)->val (l.set (i / 32) z)=2^i*(2*Q+1):=by
 have r:i % 32<32:=Ad _ (by omega);have k:(l.getD (i / 32) 0).toNat=2^(i % 32+1)*(Q % 2^(31 - i % 32)):=by
  rw[CQ,h,kJ,Gv i];have e:4294967296^(i / 32)*2^(i % 32)*2*Q=4294967296^(i / 32)*(2^(i % 32)*2*Q):=by simp only[pX]
  rw[e,Nat.mul_div_cancel_left _ (qZ (by omega)),<- Nat.pow_succ];have d:(4294967296:Nat)=2^(i % 32+1)*2^(31 - i % 32):=by rw[<- Nat.pow_add,show i % 32+1+(31 - i % 32)=32 by omega]
  rw[d,Nat.mul_mod_mul_left]
 have o:(l.getD (i / 32) 0).toNat ||| 2^(i % 32)=(l.getD (i / 32) 0).toNat+2^(i % 32):=by rw[k,oI,Nf (Ju (by omega) (by omega))]
 have b:=Nx (n:=32) (jD (l.getD (i / 32) 0)) (Ju (a:=2) (by omega) r);refine⟨b,λz s=>?_⟩;have v:=HY l (i / 32) z m;rw[s,o,sE]at v;have f:4294967296^(i / 32)*2^(i % 32)=2^i:=(Gv i).symm;have j:2^i*(2*Q+1)=2^(i+1)*Q+2^i:=by rw[sE,kJ,pX];omega
 rw[j,<- h,<- f];omega
def XY{v p sum A C x y d r:Nat}(f:v+p*sum=A+C)(a:x+y+sum=4294967296*d+r):v+p*r+p*4294967296*d=A+p*x+(C+p*y):=by
 have b:p*(x+y+sum)=p*(4294967296*d+r):=by rw[a]
 simp only[sE,pX]at *
 omega
def LA(a b:List UInt32)(O:a.length<=1073741824)(G:b.length<=1073741824):zS 188 [.sl (ens a),.sl (ens b)] (.sl (ens (lb (val a+val b)))):=by
 refine Sp.vz c.kr λ_=>?_;simp[g.kr];obtain⟨M,N⟩:∃ M,M=max a.length b.length:=⟨_,rfl⟩
 refine b6 (S:=λx:Nat × Nat × List UInt32=>aB [(0,hW a),(1,hW b),(5,.own 1 0 0 x.1),(6,.p (.int .u64 x.2.1)),(7,f8 x.1)] [(1,⟨1,aK x.2.2⟩)])
  (I:=λx=>x.2.2.length=x.1/\x.1<=M+1/\x.2.1<=1/\val x.2.2+4294967296^x.1*x.2.1=val (a.take x.1)+val (b.take x.1)) (m:=λx=>M+1 - x.1) (0,0,[]) (aA.nl 5 1 1 rfl (aA.to [0,1,5,6,7] [((1,0),1)] (by simp))) ⟨rfl,by simp,by simp,by simp⟩ ?_
 rintro⟨i,sum,f⟩ ⟨j,E,F,d⟩ R H Q J;simp at j E F d;simp[g.w7];refine⟨λh=>?_,λh=>?_⟩
 .refine dC (HJ _ _ (by omega)) rfl ?_;simp;refine dC (HJ _ _ (by omega)) rfl ?_;simp;have s:i<=M:=by split at h<;>omega
  have A:=aZ i;have o:=vC a i;have r:=vC b i;have u:=jD (a.getD i 0);have w:=jD (b.getD i 0);simp only[eV]at o r u w;generalize (a[i]?.getD 0).toNat=x at o u ⊢;generalize (b[i]?.getD 0).toNat=y at r w ⊢;obtain⟨z,t⟩:∃ z:UInt32,z.toNat=(x+y+sum) % 4294967296:=⟨_,oH _⟩;have B:((x:Int)+y+sum) % 18446744073709551616 / 4294967296=(((x+y+sum) / 4294967296:Nat):Int):=by omega
  have C:((x:Int)+y+sum) % 4294967296=(z.toNat:Int):=by rw[t];omega
  rw[A,B,C];refine⟨⟨by omega,by omega⟩,H (i+1,(x+y+sum) / 4294967296,f++[z]) _ (aA.to [0,1,5,6,7] [((31,0),1)] (by simp)) ⟨by simp[j],by simp only;omega,by simp only;omega,?_⟩ (by simp only;omega)⟩;simp only;rw[AZ,t,j,o,r,kJ];have D:x+y+sum=4294967296*((x+y+sum) / 4294967296)+(x+y+sum) % 4294967296:=by omega
  exact XY d D
 .refine J _ _ ?_;simp;have s:i=M+1:=by split at h<;>omega
  subst s;refine dC (FO f) (kX (uF rfl rfl j.symm) pS) ?_;rw[Gr _ (by omega),Gr _ (by omega)]at d;have K:=iL (oW a) (pV (n:=4294967296) (by omega) (show a.length<=M by omega));have L:=iL (oW b) (pV (n:=4294967296) (by omega) (show b.length<=M by omega));have k:sum=0:=z26 d K L;subst k;simp;rw[Nat.mul_zero,uO]at d;rw[d]
def Yx{v p a A C x y l r:Nat}(f:v+C=A+p*a)(b:x+4294967296*l=y+a+r):v+p*r+(C+p*y)=A+p*x+p*4294967296*l:=by
 have d:p*(x+4294967296*l)=p*(y+a+r):=by rw[b]
 simp only[sE,pX]at *
 omega
theorem We{l:List UInt32}{k:Nat}(h:val l<4294967296^k):l.getD k 0=0:=by apply ye;rw[CQ,Ac h];rfl
def IA(a b:List UInt32)(O:a.length<=1073741824)(u:val b<=val a):zS 190 [.sl (ens a),.sl (ens b)] (.sl (ens (lb (val a - val b)))):=by
 refine Sp.vz c.kx λ_=>?_;simp[g.kx]
 refine b6 (S:=λx:Nat × Nat × List UInt32=>aB [(0,hW a),(1,hW b),(5,.own 1 0 0 x.1),(6,.p (.int .u64 x.2.1)),(7,f8 x.1)] [(1,⟨1,aK x.2.2⟩)])
  (I:=λx=>x.2.2.length=x.1/\x.1<=a.length/\x.2.1<=1/\val x.2.2+val (b.take x.1)=val (a.take x.1)+4294967296^x.1*x.2.1) (m:=λx=>a.length - x.1) (0,0,[]) (aA.nl 5 1 1 rfl (aA.to [0,1,5,6,7] [((1,0),1)] (by simp))) ⟨rfl,by simp,by simp,by simp⟩ ?_
 rintro⟨i,d,f⟩ ⟨n,H,J,s⟩ R M Q N;simp only at n H J s;simp[g.w9];refine⟨λh=>?_,λh=>?_⟩
 .refine dC (HJ _ _ (by omega)) rfl ?_;simp;refine dC (HJ _ _ (by omega)) rfl ?_;simp;have D:=aZ i;have w:=vC a i;have A:=vC b i;have t:=jD (a.getD i 0);have C:=jD (b.getD i 0);simp only[eV]at w A t C;generalize (a[i]?.getD 0).toNat=x at w t ⊢;generalize (b[i]?.getD 0).toNat=y at A C ⊢;obtain⟨z,B⟩:∃ z:UInt32,z.toNat=(x+4294967296 - y - d) % 4294967296:=⟨_,oH _⟩;obtain⟨o,j⟩:∃ o:Nat,o=if x<y+d then 1 else 0:=⟨_,rfl⟩
  have E:(1 - ((x:Int)+4294967296 - y - d) % 18446744073709551616 / 4294967296) % 18446744073709551616=(o:Int):=by subst j;split<;>omega
  have F:((x:Int)+4294967296 - y - d) % 4294967296=(z.toNat:Int):=by rw[B];omega
  rw[D,E,F];refine⟨⟨by omega,by omega⟩,M (i+1,o,f++[z]) _ (aA.to [0,1,5,6,7] [((29,0),1)] (by simp)) ⟨by simp[n],by simp only;omega,by simp only;subst j;split<;>omega,?_⟩ (by simp only;omega)⟩;simp only;rw[AZ,B,n,w,A,kJ];have G:x+4294967296*o=y+d+(x+4294967296 - y - d) % 4294967296:=by subst j;split<;>omega
  generalize 4294967296^i=p at *
  generalize (x+4294967296 - y - d) % 4294967296=r at *
  exact Yx s G
 .refine N _ _ ?_;simp;have L:i=a.length:=by omega
  subst L;refine dC (FO f) (kX (uF rfl rfl n.symm) pS) ?_;rw[kK,RR (oY u (oW a))]at s;have t:=oW f;rw[n]at t;have k:d=0:=by
   obtain K|K:=pW 0 d
   .have:d=1:=by omega
    subst this;omega
   .omega
  subst k;rw[Nat.mul_zero,uO]at s;simp;rw[show val f=val a - val b by omega]
def Gf(a b:List UInt32)(hl:a.length<=536870912)(W:b.length<=536870912):zS 133 [.sl (ens a),.sl (ens b)] (.sl (ens (lb (val a*val b)))):=by
 refine Sp.vz c.jz λ_=>?_;have L:i64.wrap ((a.length:Int)+b.length)=((a.length+b.length:Nat):Int):=cT;simp[g.jz,L];have s:((a.length:Int)+b.length).toNat=a.length+b.length:=by omega
 simp only[s]
 refine⟨by omega,b6 (S:=λx:Nat × List UInt32=>aB [(0,hW a),(1,hW b),(5,.own 1 0 0 (a.length+b.length)),(6,f8 x.1)] [(1,⟨1,aK x.2⟩)])
  (I:=λx=>x.2.length=a.length+b.length/\x.1<=a.length/\val x.2=val (a.take x.1)*val b) (m:=λx=>a.length - x.1) (0,List.replicate (a.length+b.length) 0)
  (aA.to [0,1,5,6] [((15,0),1)] (by simp)) ⟨by simp,by simp,by simp[Jb]⟩ ?_⟩
 rintro⟨i,n⟩ ⟨J,U,r⟩ R X hr Z;simp only at J U r;simp[g.wj];refine⟨λh=>?_,λh=>?_⟩
 .refine b6 (S:=λx:Nat × Nat × List UInt32=>aB [(0,hW a),(1,hW b),(5,.own 1 0 0 (a.length+b.length)),(6,f8 i),(7,.p (.int .u64 x.2.1)),(8,f8 x.1)] [(1,⟨1,aK x.2.2⟩)])
   (I:=λx=>x.2.2.length=a.length+b.length/\x.1<=b.length/\x.2.1<4294967296/\x.2.2.getD (i+b.length) 0=0/\val x.2.2+4294967296^i*4294967296^x.1*x.2.1=val (a.take i)*val b+4294967296^i*(a.getD i 0).toNat*val (b.take x.1)) (m:=λx=>b.length - x.1) (0,0,n)
   (aA.to [0,1,5,6,7,8] [((1,0),1)] (by simp)) ⟨by simp[J],by simp,by simp,?_,by simp[r]⟩ ?_
  .simp only;refine We ?_;rw[r,rN];have q1:val (a.take i)<4294967296^i:=iL (oW _) (pV (by omega) (by simp;omega));exact uJ q1 (oW b)
  rintro⟨j,sum,d⟩ ⟨E,k2,k3,F,f⟩ R2 B Y D;simp only at E k2 k3 f F;simp[g.wi];have u:=aZ i;refine⟨λg=>?_,λg=>?_⟩
  .have w:i64.wrap ((i:Int)+j)=((i+j:Nat):Int):=cT;have M:=aZ j;rw[w,M,Int.toNat_natCast];refine bK (by omega) (bK (by omega) ⟨⟨by omega,by omega,by omega⟩,bK (by omega) ⟨⟨by omega,by omega,by omega⟩,bK (by omega) ?_⟩⟩);have G:=vC b j;have u0:=jD a[i];have u1:=jD b[j];have u2:=jD d[i+j];have K:∀ z,val (d.set (i+j) z)+4294967296^(i+j)*d[i+j].toNat=val d+4294967296^(i+j)*z.toNat:=λz=>by have:=HY d (i+j) z (by omega);simpa only[List.getD_eq_getElem?_getD,List.getElem?_eq_getElem (show i+j<d.length by omega),Option.getD_some]using this
   have H:(a.getD i 0)=a[i]:=by simp[dO h]
   have Q:(b.getD j 0)=b[j]:=by simp[dO g]
   rw[Q]at G;rw[H]at f;generalize C:a[i].toNat=x at u0 f ⊢;generalize b[j].toNat=y at G u1 ⊢;generalize d[i+j].toNat=o at u2 K ⊢;have ad:x*y<=4294967295*4294967295:=mT (by omega) (by omega);obtain⟨z,k⟩:∃ z:UInt32,z.toNat=(sum+(o+x*y)) % 4294967296:=⟨_,oH _⟩;have N:((x:Int)*y+o+sum) % 18446744073709551616 / 4294967296=(((sum+(o+x*y)) / 4294967296:Nat):Int):=by
    have:((x:Int)*y)=((x*y:Nat):Int):=by simp
    rw[this];omega
   have t:((x:Int)*y+o+sum) % 4294967296=(z.toNat:Int):=by
    have:((x:Int)*y)=((x*y:Nat):Int):=by simp
    rw[this,k];omega
   rw[N,t];refine B (j+1,(sum+(o+x*y)) / 4294967296,d.set (i+j) z) _ (aA.to [0,1,5,6,7,8] [((1,0),1)] (by simp)) ⟨by simp[E],by simp only;omega,by simp only;omega,?_,?_⟩ (by simp only;omega)
   .simp only;rw[eV,List.getElem?_set_ne (by omega),<- List.getD_eq_getElem?_getD];exact F
   .simp only;have v:=K z;rw[k,rN]at v;rw[G,kJ,H,C];have O:=GR (sum+(o+x*y)) 4294967296;exact QR v f O
  .refine D _ _ ?_;have V:j=b.length:=by omega
   subst V;have w:i64.wrap ((i:Int)+b.length)=((i+b.length:Nat):Int):=cT;simp[w,u];have A:((i:Int)+b.length).toNat=i+b.length:=by omega
   rw[A];obtain⟨z,k⟩:∃ z:UInt32,z.toNat=sum:=⟨UInt32.ofNat sum,by rw[oH];omega⟩;have t:(sum:Int) % 4294967296=(z.toNat:Int):=by rw[k];omega
   rw[t];refine⟨⟨by omega,by omega,by omega⟩,bK (by omega) ?_⟩;refine X (i+1,d.set (i+b.length) z) _ (aA.to [0,1,5,6] [((1,0),1)] (by simp)) ⟨by simp[E],by simp only;omega,?_⟩ (by simp only;omega);simp only;have v:=HY d (i+b.length) z (by omega);rw[F,k,rN]at v;rw[kK]at f;rw[vC,sT];simp only[UInt32.toNat_zero,Nat.mul_zero,uO]at v;rw[v,f]
 .refine Z _ _ ?_;simp;refine dC (FO n) (kX (uF rfl rfl (by omega)) pS) ?_;simp;have:i=a.length:=by omega
  subst this;rw[r,kK]
def LV(a b:List UInt32)(hl:a.length<=4194304)(ad:b.length<=4194304)(hb:val b≠0)(O:gK b):zS 175 [.sl (ens a),.sl (ens b)] (.bM [.sl (ens (lb (val a / val b))),.sl (ens (lb (val a % val b)))]):=by
 refine Sp.vz c.kj λ_=>?_;have e0:i64.wrap (32*(a.length:Int))=32*(a.length:Int):=cT;have e1:i64.wrap (32*(a.length:Int) - 1)=32*(a.length:Int) - 1:=cT;simp[g.kj,e0,e1]
 refine⟨by omega,b6 (S:=λx:Nat × Nat × List UInt32=>aB [(0,hW a),(1,hW b),(6,.own 1 0 0 a.length),(7,.p (.sl (ens (lb x.2.1)))),(8,f8 ((x.1:Int) - 1))] [(1,⟨1,aK x.2.2⟩)])
  (I:=λx=>x.2.2.length=a.length/\x.1<=32*a.length/\x.2.1<val b/\∃ Q,val x.2.2=2^x.1*Q/\val a / 2^x.1=Q*val b+x.2.1) (m:=λx=>x.1) (32*a.length,0,List.replicate a.length 0)
  ((aA.freeze (t:=7) rfl).trans (aA.to [0,1,6,7,8] [((11,0),1)] (by simp))) ⟨by simp,by simp,by simp;omega,0,by simp[Jb],?_⟩ ?_⟩
 .simp only[JK,uO];rw[TQ];exact Ac (oW a)
 rintro⟨k,R,q⟩ ⟨K,h2,Y,Q,J,A⟩ X Z hr hx;simp only at K h2 Y J A;have o:=dM (nR (Nat.lt_trans Y (oW b))) ad;obtain _|i:=k
 .simp[g.uc];refine hx _ _ ?_;simp;refine dC (FO q) (kX (uF rfl (by simp) (by omega)) pS) ?_;simp;simp only[Nat.pow_zero,Nat.one_mul,Nat.div_one]at J A;have q1:val a / val b=val q:=by rw[A,J,oI,Nat.mul_add_div (by omega),Ac Y];omega
  have q2:val a % val b=R:=by rw[A,oI,Nat.mul_add_mod,uM Y]
  rw[q1,q2];exact⟨rfl,rfl⟩
 .simp[g.uc];refine dC (LA (lb R) (lb R) (by omega) (by omega)) rfl ?_;simp;have hw:i64.wrap ((i:Int) / 32)=((i / 32:Nat):Int):=by rw[cL];omega
  have hm:(i:Int).tmod 32=((i % 32:Nat):Int):=Jd i 32;have F:((i % 32:Nat):Int) % 18446744073709551616=((i % 32:Nat):Int):=by omega
  have G:((i % 32:Nat):Int).toNat.min 32=i % 32:=uN (by rw[kZ];omega);rw[hw,hm,F,G,kZ];have C:=WX a i;have u:=z64 (val a) i;have r:=ZB J (by omega);have U:i / 32<a.length:=by omega
  have ga:(a.getD (i / 32) 0)=a[i / 32]:=by simp[dO U]
  rw[ga]at C;refine bK U ⟨by omega,by omega,?_⟩;have V:=jD a[i / 32];generalize a[i / 32]=x at C V ⊢;have he:((x.toNat:Int) / 2^(i % 32))=((x.toNat / 2^(i % 32):Nat):Int):=by simp
  have N:=yc1 (x:=x.toNat / 2^(i % 32)) (y:=1) (oY (Cc _ _) V) (by omega);rw[Nat.and_one_is_mod,show((1:Nat):Int)=1 from rfl]at N;rw[he,N,<- C];have w:i64.wrap ((i:Int) - 1)=(i:Int) - 1:=cT;have af:(val a / 2^i % 2=0)\/(val a / 2^i % 2=1):=by omega
  refine⟨λal=>?_,λag=>?_⟩
  .refine dC (LA (lb (R+R)) [1] (by have:=DZ (m:=R) (n:=R) o o;omega) (by simp)) (kX rfl (kX (uF rfl (by simp) (by simp)) pS)) ?_;obtain⟨f,d⟩:∃ f,R+R+1=f:=⟨_,rfl⟩;have L:val a / 2^i % 2=1:=by omega
   simp[d];have M:(lb f).length<=4194305:=by
    have:=DZ o o;have:=DZ (m:=R+R) (n:=1) (a:=4194305) (by omega) (by rw[CC];simp)
    first|(rw[<- d];have h:=nR (n:=R+R+1) (k:=b.length+1) (by have:=oW b;rw[kJ];omega);omega)|(rw[<- d];omega)
   refine dC (Ms (lb f) b (by omega) (by omega) (tT _) O) rfl ?_;simp[IY];refine⟨λD=>?_,λE=>?_⟩
   .refine dC (IA (lb f) b (by omega) (by simpa using D)) rfl ?_;simp;rw[hw,hm,F,G,Int.toNat_natCast,w];have j:i / 32<q.length:=by omega
    have gq:(q.getD (i / 32) 0)=q[i / 32]:=by simp[dO j]
    rw[gq]at r;obtain⟨z,W⟩:∃ z:UInt32,z.toNat=q[i / 32].toNat ||| 2^(i % 32):=⟨UInt32.ofNat _,by rw[oH,uM r.1]⟩;have B:=Gb (s:=i % 32) (Ad _ (by omega));have H:((2:Int)^(i % 32) % 4294967296)=((2^(i % 32):Nat):Int):=by
     have:((2:Int)^(i % 32))=((2^(i % 32):Nat):Int):=by simp
     rw[this];generalize 2^(i % 32)=p at B ⊢;omega
    have ho:=Sx (x:=q[i / 32].toNat) (y:=2^(i % 32)) (jD _) (by omega);rw[H];refine⟨⟨by omega,by omega,by omega⟩,bK j ⟨by omega,⟨by omega,by omega,by omega⟩,bK j ?_⟩⟩;rw[ho,<- W];refine Z (i,f - val b,q.set (i / 32) z) _ (aA.to [0,1,6,7,8] [((1,0),1)] (by simp)) ⟨by simp[K],by simp only;omega,by simp only;omega,2*Q+1,?_,?_⟩ (by simp)
    .simp only;exact r.2 z W
    .simp only;rw[u,A,L,sT,pX,sE];omega
   .refine Z (i,f,q) _ (aA.to [0,1,6,7,8] [((1,0),1)] (by simp[w])) ⟨K,by simp only;omega,E,2*Q,?_,?_⟩ (by simp)
    .simp only;rw[J,kJ,pX]
    .simp only;rw[u,A,L,<- d,sE,pX];omega
  .obtain⟨f,d⟩:∃ f,R+R=f:=⟨_,rfl⟩;have L:val a / 2^i % 2=0:=by omega
   simp[d];have M:(lb f).length<=4194305:=by
    have:=DZ o o;have:=DZ (m:=R+R) (n:=1) (a:=4194305) (by omega) (by rw[CC];simp)
    first|(rw[<- d];have h:=nR (n:=R+R+1) (k:=b.length+1) (by have:=oW b;rw[kJ];omega);omega)|(rw[<- d];omega)
   refine dC (Ms (lb f) b (by omega) (by omega) (tT _) O) rfl ?_;simp[IY];refine⟨λD=>?_,λE=>?_⟩
   .refine dC (IA (lb f) b (by omega) (by simpa using D)) rfl ?_;simp;rw[hw,hm,F,G,Int.toNat_natCast,w];have j:i / 32<q.length:=by omega
    have gq:(q.getD (i / 32) 0)=q[i / 32]:=by simp[dO j]
    rw[gq]at r;obtain⟨z,W⟩:∃ z:UInt32,z.toNat=q[i / 32].toNat ||| 2^(i % 32):=⟨UInt32.ofNat _,by rw[oH,uM r.1]⟩;have B:=Gb (s:=i % 32) (Ad _ (by omega));have H:((2:Int)^(i % 32) % 4294967296)=((2^(i % 32):Nat):Int):=by
     have:((2:Int)^(i % 32))=((2^(i % 32):Nat):Int):=by simp
     rw[this];generalize 2^(i % 32)=p at B ⊢;omega
    have ho:=Sx (x:=q[i / 32].toNat) (y:=2^(i % 32)) (jD _) (by omega);rw[H];refine⟨⟨by omega,by omega,by omega⟩,bK j ⟨by omega,⟨by omega,by omega,by omega⟩,bK j ?_⟩⟩;rw[ho,<- W];refine Z (i,f - val b,q.set (i / 32) z) _ (aA.to [0,1,6,7,8] [((1,0),1)] (by simp)) ⟨by simp[K],by simp only;omega,by simp only;omega,2*Q+1,?_,?_⟩ (by simp)
    .simp only;exact r.2 z W
    .simp only;rw[u,A,L,sT,pX,sE];omega
   .refine Z (i,f,q) _ (aA.to [0,1,6,7,8] [((1,0),1)] (by simp[w])) ⟨K,by simp only;omega,E,2*Q,?_,?_⟩ (by simp)
    .simp only;rw[J,kJ,pX]
    .simp only;rw[u,A,L,<- d,sE,pX];omega
def Qs(a b:List UInt32)(z:a.length<=4194304)(k:b.length<=4194304)(u:gK a)(w:gK b):zS 174 [.sl (ens a),.sl (ens b)] (.sl (ens (lb (Nat.gcd (val a) (val b))))):=by
 refine Sp.vz c.ki λ_=>?_;simp[g.ki];refine b6 (S:=λx:List UInt32 × List UInt32=>aB [(0,hW x.1),(1,hW x.2)] []) (I:=λx=>x.1.length<=4194304/\x.2.length<=4194304/\gK x.1/\gK x.2/\Nat.gcd (val x.1) (val x.2)=Nat.gcd (val a) (val b)) (m:=λx=>val x.2) (a,b) (aA.of (keep:=[0,1]) (ids:=[]) rfl) ⟨z,k,u,w,rfl⟩ ?_;rintro⟨x,y⟩ ⟨n,j,o,f,i⟩ R A C B;simp at n j o f i;simp[g.wu];refine⟨λh=>?_,λh=>B _ _ ?_⟩
 .have s:val y≠0:=λt=>by rw[<- wD f,t]at h;simp at h
  refine dC (LV x y n j s f) rfl ?_;simp;have d:=Nat.mod_lt (val x) (Nat.pos_of_ne_zero s);have r:=nR (Nat.lt_trans d (oW y));refine A (y,lb (val x % val y)) _ (aA.of (keep:=[0,1]) (ids:=[]) rfl) ⟨j,by simp only;omega,f,tT _,?_⟩ (by simpa using d);simp only[DU];rw[<- i,Nat.gcd_comm (val x),Nat.gcd_rec (val y) (val x),Nat.gcd_comm]
 .subst h;simp at i;simp;rw[<- i,wD o]
def DP(x:aT):zS 134 [enc x] (.sl (ens (if x.den=[]then[(1:UInt32)]else x.den))):=by refine Sp.vz c.j0 λ_=>?_;simp[g.j0];refine⟨λh=>by simp[h],λh=>by simp[h]⟩
def FY(f:Fr)(hd:f.d≠0)(o:f.e.sm 4194304):zS 132 [.bool f.neg,.sl (ens (lb f.n)),.sl (ens (lb f.d))] (enc (cR f.v)):=by
 obtain⟨b,j⟩:=o;simp only[Fr.e]at b j;refine Sp.vz c.go λ_=>?_;simp[g.go];refine⟨λh=>?_,λh=>?_⟩
 .simp[Mm h,yA]
 .have r:=Nu f.d (C9 h);refine dC (Qs _ _ b j (tT _) (tT _)) rfl ?_;have a:(lb (Nat.gcd f.n f.d)).length<=4194304:=by refine dM (nR (n:=Nat.gcd f.n f.d) (k:=(lb f.n).length) ?_) b;exact oY (Nat.gcd_le_left _ (C9 h)) (uB _)
  rw[Nk hd h];simp;refine dC (LV (lb f.n) (lb (Nat.gcd f.n f.d)) b a (by simp;omega) (tT _)) rfl ?_;simp;refine dC (LV (lb f.d) (lb (Nat.gcd f.n f.d)) j a (by simp;omega) (tT _)) rfl ?_;simp;refine dC (D4 _) rfl ?_;have i:(lb (f.d / Nat.gcd f.n f.d)=[1]) ↔ f.d / Nat.gcd f.n f.d=1:=⟨λh=>by have:=congrArg val h;simpa using this,λh=>by rw[h,CC]⟩;simp[i];refine⟨λm=>?_,λm=>?_⟩<;>simp[m]
def Q3(v:Int)(a : -9223372036854775808<=v)(b:v<=9223372036854775807):zS 138 [g6 v] (.int .u64 v.natAbs):=by refine Sp.vz c.oj λ_=>?_;simp[g.oj];refine⟨λh=>?_,λh=>by omega⟩;rw[cL (n:=v+1) (by omega) (by omega),cL];omega
def BY{a:List UInt32}(h:0<a.length):(a[a.length - 1].toNat=0) ↔ ¬ gK a:=by simp only[gK,List.getLast?_eq_getElem?,List.getElem?_eq_getElem (show a.length - 1<a.length by omega)];simp;exact⟨λh=>ye (by simpa using h),λh=>by rw[h];rfl⟩
def z75(l:List UInt32)(h:gK l):l=[1] ↔ val l=1:=⟨λh=>by rw[h];rfl,λa=>by rw[<- wD h,a,CC]⟩
def IK(x:aT)(z:x.sm 4194304):zS 155 [enc x] (.bool x.valid):=by
 obtain⟨w,y⟩:=z;have en:i64.wrap ((x.num.length:Int) - 1)=(x.num.length:Int) - 1:=cT;have u:i64.wrap ((x.den.length:Int) - 1)=(x.den.length:Int) - 1:=cT;have m:((x.num.length:Int) - 1).toNat=x.num.length - 1:=by omega
 have k:((x.den.length:Int) - 1).toNat=x.den.length - 1:=by omega
 refine Sp.vz c.bs λ_=>?_;by_cases i:x.num=[]
 .by_cases d:x.den=[]
  .simp[g.bs,i,d];refine dC (D4 []) rfl ?_;simp;rw[Gg];refine⟨λh=>?_,λh=>?_⟩<;>simp[aT.valid,i,d,h]
  .have a:=Dd.2 d;simp[g.bs,i,a,u,k];refine bK (by omega) ⟨by omega,λf=>?_,λf=>?_⟩
   .simp[aT.valid,(BY a).1 f]
   .have o:gK x.den:=by simpa using (mt (BY a).2) f
    refine dC (D4 x.den) rfl ?_;simp;refine⟨λn=>by simp[aT.valid,i,d],λn=>?_⟩;rw[Gg];refine⟨λh=>?_,λh=>?_⟩<;>simp[aT.valid,i,d,h]
 .have b:=Dd.2 i;by_cases d:x.den=[]
  .simp[g.bs,b,d,en,m];refine bK (by omega) ⟨by omega,λf=>?_,λf=>?_⟩
   .simp[aT.valid,(BY b).1 f]
   .have o:gK x.num:=by simpa using (mt (BY b).2) f
    refine dC (D4 []) rfl ?_;simp[i];simp[aT.valid,i,d,o]
  .have a:=Dd.2 d;simp[g.bs,b,a,en,m,u,k];refine bK (by omega) ⟨by omega,λf=>?_,λf=>bK (by omega) ⟨by omega,λn=>?_,λn=>?_⟩⟩
   .simp[aT.valid,(BY b).1 f]
   .simp[aT.valid,(BY a).1 n]
   .have o:gK x.num:=by simpa using (mt (BY b).2) f
    have j:gK x.den:=by simpa using (mt (BY a).2) n
    refine dC (D4 x.den) rfl ?_;simp[i,d];refine⟨λs=>?_,λs=>?_⟩
    .simp[aT.valid,i,d,(z75 _ j).1 s]
    .refine dC (Qs x.num x.den w y o j) rfl ?_;simp;refine dC (D4 _) rfl ?_;have r:(lb ((val x.num).gcd (val x.den))=[1]) ↔ (val x.num).gcd (val x.den)=1:=⟨λh=>by have:=congrArg val h;simpa using this,λh=>by rw[h,CC]⟩;have t:¬ val x.den=1:=λh=>s ((z75 _ j).2 h);simp[aT.valid,i,d,o,j,r,t]
def zV(x:aT)(a:x.sm 4194304):zS 113 [enc x] (enc (cR x.v)):=by
 refine Sp.vz c.bj λ_=>?_;simp[g.bj];refine dC (IK x a) rfl ?_;simp;rw[Gg];refine⟨λh=>?_,λh=>?_⟩
 .have:=a.1;have:=a.2;simp[sx h];omega
 .simp[IJ h,yA]
def F5(x:aT)(f:x.sm 4194304):zS 152 [enc x] (g6 (kM x.v)):=by
 refine Sp.vz c.d0 λ_=>?_;simp[g.d0];refine dC (zV x f) rfl ?_;have i:x.v=0 ↔ x.v.num=0:=Rat.num_eq_zero.symm;have d:0<=x.v ↔ 0<=x.v.num:=Rat.num_nonneg.symm;simp[cR,kM];rw[d];simp only[i];refine⟨λh=>?_,λh=>⟨λa=>?_,λa=>?_⟩⟩
 .rw[bD (by omega),aX h]
 .have b:x.v.num≠0:=λh=>by rw[h]at a;simp at a
  rw[bD b,bD (by omega)]
 .intro b;exact absurd a b
def yf1(x:aT)(b:x.sm 4194304):zS 351 [enc x] (enc (cR (-x.v))):=by
 refine Sp.vz c.qd λ_=>?_;simp[g.qd];refine dC (zV x b) rfl ?_;have d:x.v=0 ↔ x.v.num=0:=Rat.num_eq_zero.symm;simp[cR];simp only[d];refine⟨λa=>?_,λa=>by omega⟩;have f:x.v.num≠0:=λh=>by rw[h]at a;simp at a
 by_cases h:x.v.num<0
 .have:¬ 0<x.v.num:=by omega
  simp[h,this]
 .have:0<x.v.num:=by omega
  simp[h,this]
def Uz{x:aT}{n:Nat}(h:x.sm n):(cR x.v).sm n:=by
 by_cases a:x.valid=true
 .rw[sx a];exact h
 .rw[IJ (by simpa using a),yA];exact⟨by simp,by simp⟩
def JQ(q:Rat):(iq q).e=⟨(cR q).neg,(cR q).num,if (cR q).den=[]then[1]else(cR q).den⟩:=by have:=L4 (vD q);rw[kW]at this;exact this
def KB(x y:aT)(s:x.sm 1048576)(t:y.sm 1048576):zS 83 [enc x,enc y] (enc (cR (x.v*y.v))):=by
 have n:=sB s (by omega);have o:=sB t (by omega);have B:=Kx n o;have C:(rZ (iq x.v) (iq y.v)).d≠0:=yr2 (nH _) (nH _);have r:=M9 (iq x.v) (iq y.v);rw[xw,xw]at r;have k:=JQ x.v;have m:=JQ y.v;simp only[Fr.e,aT.mk.injEq]at k m;obtain⟨f,a,h⟩:=k;obtain⟨i,b,j⟩:=m;obtain⟨u,w⟩:=n;obtain⟨z,A⟩:=o;simp only[Fr.e]at u w z A;refine Sp.vz c.jo λ_=>?_;simp[g.jo];refine fL (zV x (s.mono (by omega))) rfl ?_;simp;refine fL (zV y (t.mono (by omega))) rfl ?_;simp;refine fL (Gf (cR x.v).num (cR y.v).num (by rw[<- a];omega) (by rw[<- b];omega)) rfl ?_;simp;refine fL (DP (cR x.v)) rfl ?_;simp;refine fL (DP (cR y.v)) rfl ?_;simp only[<- f,<- a,<- h,<- i,<- b,<- j];simp;refine fL (Gf _ _ (by omega) (by omega)) rfl ?_;simp;refine fL (FY (rZ (iq x.v) (iq y.v)) C (B.mono (by omega))) ?_ ?_
 .simp[rZ,bne]
 .simp[r]
def Kl(x y:aT)(E:x.sm 1048576)(F:y.sm 1048576):zS 154 [enc x,enc y] (enc (cR (x.v+y.v))):=by
 have i:=sB E (by omega);have j:=sB F (by omega);have A:=Fz i j;have B:(jA (iq x.v) (iq y.v)).d≠0:=Fp (nH _) (nH _);have m:=Fq (f:=iq x.v) (g:=iq y.v) (nH _) (nH _);rw[xw,xw]at m;have C:=JQ x.v;have D:=JQ y.v;have K:=yj i.1 j.2;have L:=yj j.1 i.2;have M:=yj i.2 j.2;simp only[Fr.e,aT.mk.injEq]at C D;obtain⟨o,r,a⟩:=C;obtain⟨s,t,b⟩:=D;obtain⟨G,H⟩:=i;obtain⟨I,J⟩:=j;simp only[Fr.e]at G H I J;refine Sp.vz c.gt λ_=>?_;simp[g.gt];refine fL (zV x (E.mono (by omega))) rfl ?_;simp;refine fL (zV y (F.mono (by omega))) rfl ?_;simp;refine fL (DP (cR y.v)) rfl ?_;simp only[<- o,<- r,<- s,<- t,<- b];simp;refine fL (Gf _ _ (by omega) (by omega)) rfl ?_;simp;refine fL (DP (cR x.v)) rfl ?_;simp only[<- a];simp;refine fL (Gf _ _ (by omega) (by omega)) rfl ?_;simp;refine fL (DP (cR x.v)) rfl ?_;simp only[<- a];simp;refine fL (DP (cR y.v)) rfl ?_;simp only[<- b];simp;refine fL (Gf _ _ (by omega) (by omega)) rfl ?_;simp;generalize iq x.v=u at *
 generalize iq y.v=w at *
 refine⟨λh=>?_,λh=>?_⟩
 .refine fL (LA (lb (u.n*w.d)) (lb (w.n*u.d)) (by omega) (by omega)) rfl ?_;simp;refine fL (FY (jA u w) B (A.mono (by omega))) ?_ ?_
  .simp[h,jA]
  .simp[m]
 .refine dC (Ms (lb (u.n*w.d)) (lb (w.n*u.d)) (by omega) (by omega) (tT _) (tT _)) rfl ?_;simp[IY];refine⟨λk=>?_,λk=>?_⟩
  .refine fL (IA (lb (u.n*w.d)) (lb (w.n*u.d)) (by omega) (by simpa using k)) rfl ?_;simp;refine fL (FY (jA u w) B (A.mono (by omega))) ?_ ?_
   .simp[h,k,jA]
   .simp[m]
  .have z:¬ (w.n*u.d<=u.n*w.d):=Nat.not_le.2 k;refine fL (IA (lb (w.n*u.d)) (lb (u.n*w.d)) (by omega) (by simp;omega)) rfl ?_;simp;refine fL (FY (jA u w) B (A.mono (by omega))) ?_ ?_
   .simp[h,z,jA]
   .simp[m]
def QI{x y:aT}{n:Nat}(a:x.sm n)(b:y.sm n)(hn:1<=n):(cR (x.v+y.v)).sm (n+n+1):=by have e:=Fq (f:=iq x.v) (g:=iq y.v) (nH _) (nH _);rw[xw,xw]at e;rw[<- e];exact IF (Fp (nH _) (nH _)) (Fz (sB a hn) (sB b hn))
def QG{x y:aT}{n:Nat}(a:x.sm n)(b:y.sm n)(hn:1<=n):(cR (x.v*y.v)).sm (n+n):=by have e:=M9 (iq x.v) (iq y.v);rw[xw,xw]at e;rw[<- e];exact IF (yr2 (nH _) (nH _)) (Kx (sB a hn) (sB b hn))
def QH{x:aT}{n:Nat}(a:x.sm n)(hn:1<=n):(cR (-x.v)).sm n:=by have e:=Na (iq x.v);rw[xw]at e;rw[<- e];exact IF (f:=pF (iq x.v)) (nH x.v) (sB a hn)
def yek(x y:aT)(b:x.sm 1048576)(a:y.sm 1048576):zS 306 [enc x,enc y] (enc (cR (x.v - y.v))):=by refine Sp.vz c.py λ_=>?_;simp[g.py];refine fL (yf1 y (a.mono (by omega))) rfl ?_;simp;refine fL (Kl x (cR (-y.v)) b (QH a (by omega))) rfl ?_;simp[kW,TP]
def zyl(x y:aT)(a:x.sm 1048576)(b:y.sm 1048576):zS 253 [enc x,enc y] (g6 (kM (x.v - y.v))):=by have h:=QI a (QH b (by omega)) (by omega);rw[kW,<- Rat.sub_eq_add_neg]at h;refine Sp.vz c.pk λ_=>?_;simp[g.pk];refine dC (yek x y a b) rfl ?_;simp;refine dC (F5 (cR (x.v - y.v)) (h.mono (by omega))) rfl ?_;simp[kW]
def Tt(x y:aT)(d:x.sm 1048576)(f:y.sm 1048576):zS 172 [enc x,enc y] (.bool (decide (x.v<y.v))):=by
 refine Sp.vz c.kf λ_=>?_;simp[g.kf];refine dC (zyl x y d f) rfl ?_;have h:x.v<y.v ↔ (x.v - y.v).num<0:=by
  rw[Rat.lt_iff_sub_pos];have:(x.v - y.v) = -(y.v - x.v):=by rw[Rat.neg_sub]
  rw[this,Rat.neg_num];have b:0<=y.v - x.v ↔ 0<=(y.v - x.v).num:=Rat.num_nonneg.symm;have a:(y.v - x.v)=0 ↔ (y.v - x.v).num=0:=Rat.num_eq_zero.symm;rw[Rat.lt_iff_le_and_ne,b,ne_comm,Ne,a];omega
 simp only[h,kM];simp;have a:x.v - y.v=0 ↔ (x.v - y.v).num=0:=Rat.num_eq_zero.symm;simp only[a];generalize (x.v - y.v).num=z
 (repeat' split)<;>omega
def PS(a b:List UInt32)(u:a.length<=1073741824):zS 96 [.sl (ens a),.sl (ens b)] (.bool (decide (a=b))):=by
 refine Sp.vz c.nt λ_=>?_;simp[g.nt];refine⟨λh=>?_,λh=>?_⟩
 .have h:a.length=b.length:=by omega
  refine b6 (S:=λk:Nat=>aB [(0,hW a),(1,hW b),(5,f8 k)] []) (I:=λk=>k<=a.length/\a.take k=b.take k) (m:=λk=>a.length - k) 0 (aA.of (keep:=[0,1,5]) (ids:=[]) rfl) ⟨by omega,by simp⟩ ?_;rintro k ⟨s,f⟩ R n o r;simp[g.vj,aB];refine⟨λi=>bK i (bK (by omega) ⟨λt=>?_,λj=>o _ ?_⟩),λi=>r _ _ ?_⟩
  .rw[cL];refine n (k+1) _ (aA.of (keep:=[0,1,5]) (ids:=[]) rfl) ⟨by omega,?_⟩ (by omega);rw[ed i,ed (by omega),f,ye (by omega:a[k].toNat=b[k].toNat)]
  .simp;intro d;subst d;exact j rfl
  .have:k=a.length:=by omega
   subst this;simp;rw[kK,h,kK]at f;exact f
 .intro d;subst d;exact h rfl
deriving instance DecidableEq for aT
def wF(x y:aT)(d:x.sm 1073741824):zS 45 [enc x,enc y] (.bool (decide (x=y))):=by refine Sp.vz c.dr λ_=>?_;simp[g.dr];refine⟨λh=>?_,λh a=>h (by rw[a])⟩;refine dC (PS _ _ d.1) rfl ?_;simp;refine⟨λb=>?_,λb a=>b (by rw[a])⟩;refine dC (PS _ _ d.2) rfl ?_;simp;exact⟨λf=>by cases x;cases y;simp_all,λa=>by rw[a]⟩
def ybd(a b:Int)(d : -9223372036854775808<=a/\a<=9223372036854775807)(f : -9223372036854775808<=b/\b<=9223372036854775807) :
  zS 97 [g6 a,g6 b] (.bM [enc (if b=0 then cR 0 else cR (Rat.divInt a b)),g6 (if b=0 then 11 else 0)]):=by
 have i:=nR (n:=a.natAbs) (k:=2) (by omega);have j:=nR (n:=b.natAbs) (k:=2) (by omega);refine Sp.vz c.ny λ_=>?_;simp[g.ny];refine⟨λh=>by simp[h,yA],λh=>?_⟩;refine dC (Q3 a d.1 d.2) rfl ?_;simp;refine dC (Q1 a.natAbs (by omega)) (by simp) ?_;simp;refine dC (Q3 b f.1 f.2) rfl ?_;simp;refine dC (Q1 b.natAbs (by omega)) (by simp) ?_;simp;refine dC (FY ⟨decide (a<0) != decide (b<0),a.natAbs,b.natAbs⟩ (by simpa using h) ⟨by simp only[Fr.e];omega,by simp only[Fr.e];omega⟩) ?_ ?_
 .simp[bne]
 .simp[Ps,h]
def Cy(a b:Int)(f : -9223372036854775808<=a/\a<=9223372036854775807)(h : -9223372036854775808<=b/\b<=9223372036854775807)(d:b≠0) :
  zS 46 [g6 a,g6 b] (enc (cR (Rat.divInt a b))):=by
 refine Sp.vz c.dt λ_=>?_;simp[g.dt];refine dC (ybd a b f h) rfl ?_;simp[d]
def jT{P:Program}{N:Nat}{Q:Exit->St->Prop}{b:GC}{ks:List Kt}{st:St}
  (h:∀ R:Exit->St->Prop,(∀ s,vL P N Q b ks s->R .normal s)->(∀ s,Q .ret s->R .ret s)->(∀ id s,gA P N Q (fO id ks) id s->R (.exit id) s)->vm P N R [.code b] st):vL P N Q b ks st:=by
 obtain⟨a,s,f,i⟩:=lL (P:=P) (N:=N) _ (dE _) (h (λa s=>(a=.normal->vL P N Q b ks s)/\(a ≠ .normal->eT P N Q ks a s)) (λs h=>⟨λ_=>h,λh=>absurd rfl h⟩)
  (λs h=>⟨λh=>(by cases h),λ_=>zU h⟩) (λid s h=>⟨λh=>(by cases h),λ_=>Ia (by simp) h (.inr ⟨id,rfl⟩)⟩))
 by_cases d:a=.normal
 .subst d;obtain⟨a,m,j,k⟩:=i.1 rfl;exact⟨a,m,.next _ _ _ _ f j,k⟩
 .exact⟨a,s,.out _ _ _ f d,i.2 d⟩
structure Ex where
 a:Int
 b:Int
 c:Int
 deriving DecidableEq
instance:Enc Ex:=⟨λx=>.agg [g6 x.a,g6 x.b,g6 x.c],3,by decide,λ_=>rfl⟩
@[simp] theorem yog(x:Ex):enc x=.agg [g6 x.a,g6 x.b,g6 x.c]:=rfl
@[simp] theorem yk4:Enc.sz Ex=3:=rfl
structure aF where
 e:Ex
 bE:aT
 deriving DecidableEq
instance:Enc aF:=⟨λx=>.agg [g6 x.e.a,g6 x.e.b,g6 x.e.c,.bool x.bE.neg,.sl (ens x.bE.num),.sl (ens x.bE.den)],6,by decide,λ_=>rfl⟩
@[simp] theorem yk7(x:aF):enc x=.agg [g6 x.e.a,g6 x.e.b,g6 x.e.c,.bool x.bE.neg,.sl (ens x.bE.num),.sl (ens x.bE.den)]:=rfl
@[simp] theorem yhp:Enc.sz aF=6:=rfl
def Ex.cmp(x y:Ex):Int:=if x.a<y.a then -1 else if y.a<x.a then 1 else if x.b<y.b then -1 else if y.b<x.b then 1 else if x.c<y.c then -1 else if y.c<x.c then 1 else 0
def Ex.ok(x:Ex):Bool:=decide (0<=x.a/\x.a<=5/\0<=x.b/\x.b<=5/\0<=x.c/\x.c<=5/\x.a+x.b+x.c<=5)
@[simp] theorem w0:i64.wrap 0=0:=by decide
@[simp] theorem w1:i64.wrap 1=1:=by decide
@[simp] theorem w2:i64.wrap 2=2:=by decide
@[simp] theorem w3:i64.wrap 3=3:=by decide
@[simp] theorem w4:i64.wrap 4=4:=by decide
def Me(x y:Ex):zS 153 [enc x,enc y] (g6 (x.cmp y)):=by
 refine Sp.vz c.gr λ_=>?_;simp[g.gr];refine jT λR i d m=>?_;simp[g.qy];refine⟨λh=>i _ ?_,λh=>⟨λf=>d _ (by simp[Ex.cmp,f]),λf=>d _ ?_⟩⟩
 .refine jT λR i d m=>?_;simp[g.qy];refine⟨λk=>i _ ?_,λk=>⟨λf=>d _ (by simp[Ex.cmp,h,f]),λf=>d _ ?_⟩⟩
  .refine jT λR i d m=>?_;simp[g.qy];refine⟨λn=>i _ ?_,λn=>⟨λf=>d _ (by simp[Ex.cmp,h,k,f]),λf=>d _ ?_⟩⟩
   .refine jT λR i d m=>?_;simp[g.qy];refine m _ _ ?_;simp[Ex.cmp,h,k,n]
   .have:y.c<x.c:=by omega
    have j:¬ x.c<y.c:=by omega
    simp[Ex.cmp,h,k,j,this]
  .have:y.b<x.b:=by omega
   have j:¬ x.b<y.b:=by omega
   simp[Ex.cmp,h,j,this]
 .have:y.a<x.a:=by omega
  have j:¬ x.a<y.a:=by omega
  simp[Ex.cmp,j,this]
def Rg(x:Ex):zS 151 [enc x] (.bool x.ok):=by
 refine Sp.vz c.ka λ_=>?_;simp[g.ka];have d:¬ (0<=x.a/\x.a<=5/\0<=x.b/\x.b<=5/\0<=x.c/\x.c<=5)->x.ok=false:=λh=>by unfold Ex.ok;exact decide_eq_false (λn=>h (by omega))
 refine jT λR i f m=>?_;simp[g.qx];refine⟨λh=>f _ (by simp[d (by omega)]),λh=>⟨λn=>f _ (by simp[d (by omega)]),λn=>i _ ?_⟩⟩;rw[cL];refine jT λR i f m=>?_;simp[g.qx];refine⟨λo=>f _ (by simp[d (by omega)]),λo=>⟨λj=>f _ (by simp[d (by omega)]),λj=>i _ ?_⟩⟩;rw[cL];refine jT λR i f m=>?_;simp[g.qx];refine⟨λr=>f _ (by simp[d (by omega)]),λr=>⟨λk=>f _ (by simp[d (by omega)]),λk=>i _ ?_⟩⟩;rw[cL];refine jT λR i f m=>?_;simp[g.qx];refine m _ _ ?_;simp[Ex.ok];simp[h,n,o,j,r,k]
def aF.ok(m:aF):Bool:=m.e.ok&&m.bE.valid&&decide (m.bE.v≠0)
def bS(p:List aF):Prop:=∀ i,(h:i<p.length)->p[i].ok=true/\(0<i->p[i].e.cmp (p[i - 1]'(by omega)).e<0)
noncomputable instance (p:List aF):Decidable (bS p):=Classical.propDecidable _
noncomputable def pv(p:List aF):List aF:=if bS p then p else[]
def fP(p:List aF)(n:Nat):Prop:=∀ m∈p,m.bE.sm n
def Et(q:Rat):kM q=0 ↔ q=0:=by have a:q=0 ↔ q.num=0:=Rat.num_eq_zero.symm;unfold kM;rw[a];(repeat' split)<;>omega
def P'(p:List aF)(hp:fP p 1048576)(G:p.length<=1073741824):zS 173 [.sl (ens p)] (.bool (decide (bS p))):=by
 refine Sp.vz c.kg λ_=>?_;simp[g.kg];refine b6 (S:=λk:Nat=>aB [(0,hW p),(3,f8 k)] []) (I:=λk=>k<=p.length/\∀ i,(h:i<p.length)->i<k->p[i].ok=true/\(0<i->p[i].e.cmp (p[i - 1]'(by omega)).e<0)) (m:=λk=>p.length - k) 0 (aA.of (keep:=[0,3]) (ids:=[]) rfl) ⟨by omega,λi h D=>by omega⟩ ?_;rintro k ⟨E,u⟩ R y j C;simp[g.wr,aB];refine⟨λa=>?_,λa=>C _ _ ?_⟩
 .refine bK a ?_;have b:p[k].ok=false->decide (bS p)=false:=λh=>decide_eq_false λs=>by have:=(s k a).1;rw[h]at this;cases this
  refine bA (Rg p[k].e) rfl ?_;obtain h3|h3:=iK p[k].e.ok;rotate_left
  .simp[h3];refine j _ ?_;simp;simpa using b (by simp[aF.ok,h3])
  simp[h3];refine bK a ?_;have f:p[k].bE.sm 1048576:=hp _ (bU a);refine bA (IK p[k].bE (f.mono (by omega))) rfl ?_;obtain d|d:=iK p[k].bE.valid;rotate_left
  .simp[d];refine j _ ?_;simp;simpa using b (by simp[aF.ok,d])
  simp[d];refine bK a ?_;refine bA (F5 p[k].bE (f.mono (by omega))) rfl ?_;simp[Et];refine⟨λn=>?_,λn=>?_⟩
  .refine j _ ?_;simp;simpa using b (by simp[aF.ok,n])
  have r:p[k].ok=true:=by simp[aF.ok,h3,d,n]
  have z:i64.wrap ((k:Int) - 1)=(k:Int) - 1:=cT;have A:((k:Int) - 1).toNat=k - 1:=by omega
  have t:=aZ k;have step:(0<k->p[k].e.cmp (p[k - 1]'(by omega)).e<0)->∀ i,(h:i<p.length)->i<k+1->p[i].ok=true/\(0<i->p[i].e.cmp (p[i - 1]'(by omega)).e<0):=λB i h F=>by
   by_cases o:i<k
   .exact u i h o
   .have:i=k:=by omega
    subst this;exact⟨r,B⟩
  refine⟨λw=>?_,λw=>?_⟩
  .refine bK a ?_;simp[z,A];refine bK (by omega) ⟨by omega,?_⟩;refine bA (Me p[k].e (p[k - 1]'(by omega)).e) rfl ?_;simp[t];refine⟨λx=>j _ ?_,λx=>?_⟩
   .simp;exact λs=>by have:=(s k a).2 w;omega
   .exact y (k+1) _ (aA.of (keep:=[0,3]) (ids:=[]) rfl) ⟨by omega,step λ_=>x⟩ (by omega)
  .simp[t];exact y (k+1) _ (aA.of (keep:=[0,3]) (ids:=[]) rfl) ⟨by omega,step λh=>by omega⟩ (by omega)
 .have:k=p.length:=by omega
  subst this;have:bS p:=λi h=>u i h h;simp[this]
def fP.mono{p:List aF}{m n:Nat}(h:fP p m)(k:m<=n):fP p n:=λx a=>(h x a).mono k
def Ee(p:List aF)(hp:fP p 1048576)(o:p.length<=1073741824):zS 131 [.sl (ens p)] (.sl (ens (pv p))):=by
 refine Sp.vz c.gn λ_=>?_;simp[g.gn];refine bA (P' p hp o) rfl ?_;by_cases f:bS p;rotate_left
 .simp[f,pv]
 simp[f,pv]
 refine b6 (S:=λx:Nat × List aF=>aB [(0,hW p),(3,.own 1 0 0 x.2.length),(4,f8 x.1)] [(1,⟨6,aK x.2⟩)]) (I:=λx=>x.1<=p.length/\x.2=p.take x.1) (m:=λx=>p.length - x.1) (0,[])
  (aA.nl 3 1 6 rfl (aA.to [0,3,4] [((1,0),1)] (by simp))) ⟨by omega,by simp⟩ ?_
 rintro⟨k,l⟩ ⟨n,b⟩ R s u t;simp at n b ⊢;have r:l.length=k:=by rw[b];simp;omega
 simp[g.wh,aB];refine⟨λa=>?_,λa=>t _ _ ?_⟩
 .refine bK a ?_
  skip
  refine bK a ?_;have i:=(f k a).1;have h:p[k].bE.valid=true:=by simp[aF.ok]at i;exact i.1.2
  refine bA (zV p[k].bE ((hp _ (bU a)).mono (by omega))) rfl ?_;rw[sx h];simp;have j:=aZ k;rw[j];refine⟨by omega,s (k+1,l++[p[k]]) _ (aA.to [0,3,4] [((28,0),1)] (by simp)) ⟨by omega,?_⟩ (by simp;omega)⟩;show l++[p[k]]=p.take (k+1);rw[b,ed a]
 .have:k=p.length:=by omega
  have d:l=p:=by rw[b,this,kK]
  subst d;simp
def Ul(p:List aF):bS (pv p):=by
 unfold pv;split
 .assumption
 .intro i h;simp at h
def Uk{p:List aF}{n:Nat}(h:fP p n):fP (pv p) n:=by
 unfold pv;split
 .exact h
 .intro x a;simp at a
def Uj(p:List aF):(pv p).length<=p.length:=by unfold pv;split<;>simp
def zG{p:List aF}(h:bS p):pv p=p:=by simp[pv,h]
def pat:List aF->Ex->Nat
 | [],_=>0
 | m::p,e=>if 0<m.e.cmp e then pat p e+1 else 0
theorem ZD(p:List aF)(e:Ex):pat p e<=p.length:=by
 induction p with
 | nil=>simp[pat]
 | cons m p a=>simp only[pat];split<;>simp<;>omega
theorem ZE{p:List aF}{e:Ex}{i:Nat}(h:i<pat p e):∃ h:i<p.length,0<p[i].e.cmp e:=by
 induction p generalizing i with
 | nil=>simp[pat]at h
 | cons m p d =>
  simp only[pat]at h;split at h
  .rename_i b;cases i with
   | zero=>exact⟨by simp,by simpa using b⟩
   | succ i=>obtain⟨f,a⟩:=d (by omega:i<pat p e);exact⟨by simp;omega,by simpa using a⟩
  .omega
theorem ZC{p:List aF}{e:Ex}(h:pat p e<p.length):¬ 0<p[pat p e].e.cmp e:=by
 induction p with
 | nil=>simp at h
 | cons m p b =>
  by_cases a:0<m.e.cmp e
  .have:pat (m::p) e=pat p e+1:=by simp[pat,a]
   simp only[this,List.getElem_cons_succ];exact b (by simp[this]at h;omega)
  .have:pat (m::p) e=0:=by simp[pat,a]
   simp only[this,Nt];exact a
def ya1{p:List aF}{e:Ex}{k:Nat}(j:k<=p.length)(d:∀ i,(h:i<p.length)->i<k->0<p[i].e.cmp e)(f:∀ h:k<p.length,¬ 0<p[k].e.cmp e):k=pat p e:=by
 obtain h|h|h:=NB k (pat p e)
 .obtain⟨a,b⟩:=ZE h;exact absurd b (f a)
 .exact h
 .have:=ZD p e;exact absurd (d _ (by omega) h) (ZC (by omega))
def fS(p:List aF)(e:Ex)(q:Rat):List aF :=
 if e.ok=false\/q=0 then p else
 match p[pat p e]? with
 | none=>p++[⟨e,cR q⟩]
 | some m=>if m.e=e then(if q+m.bE.v=0 then p.take (pat p e)++p.drop (pat p e+1)else p.take (pat p e)++⟨e,cR (q+m.bE.v)⟩::p.drop (pat p e+1))else p.take (pat p e)++⟨e,cR q⟩::p.drop (pat p e)
def Ex.tE{x y:Ex}:x.cmp y=0 ↔ x=y:=by unfold Ex.cmp;obtain⟨a,b,c⟩:=x;obtain⟨d,f,h⟩:=y;simp only[Ex.mk.injEq];(repeat' split)<;>omega
def HK{α : Type}[Enc α]{n:Nat}{st:St}{es:List AV}{l a:List α}(h:es=aK l)(k:l=a):es.mapM (bH st (n+1))=some (ens a):=by rw[h,k,Ib]
def KO(p:List aF)(m:aF)(hp:fP p 1048576)(K:p.length<=1073741823)(y:m.bE.sm 1048576)(D:m.bE.valid=true):zS 112 [.sl (ens p),enc m] (.sl (ens (fS p m.e m.bE.v))):=by
 refine Sp.vz c.gl λ_=>?_;simp[g.gl];refine bA (Rg m.e) rfl ?_;obtain h3|h3:=iK m.e.ok;rotate_left
 .simp[h3,fS]
 simp[h3];refine bA (F5 m.bE (y.mono (by omega))) rfl ?_;simp[Et];refine⟨λj=>by simp[j,fS],λj=>?_⟩
 refine b6 (S:=λk:Nat=>aB [(0,hW p),(3,i0 1),(5,f8 k)] [(1,⟨6,[.p (enc m)]⟩)]) (I:=λk=>k<=p.length/\∀ i,(h:i<p.length)->i<k->0<p[i].e.cmp m.e) (m:=λk=>p.length - k) 0
  (aA.to [0,3,5] [((3,0),1)] (by simp)) ⟨by omega,λi h j=>by omega⟩ ?_
 rintro k ⟨t,B⟩ R H L E;have A:=aZ k;have f:(∀ h:k<p.length,¬ 0<p[k].e.cmp m.e)->R (.exit 0) (aB [(0,hW p),(3,i0 1),(5,f8 k)] [(1,⟨6,[.p (enc m)]⟩)]):=by
  intro F;refine E _ _ ?_;have o:=ya1 t B F;have b:min k p.length=k:=uN t;simp[aB,t];refine⟨by omega,λG=>?_,λG=>?_⟩
  .refine⟨by omega,by omega,by omega,?_⟩;have C:p.drop k=[]:=by rw[List.drop_eq_nil_iff];omega
   refine HK (l:=p++[m]) ?_ ?_
   .rw[eZ (by simp[C];omega),C,show p.take k=p by rw[eZ (by omega)]];simp
   .have r:p[k]?=none:=by rw[List.getElem?_eq_none_iff];omega
    simp[fS,h3,j,<- o,r,sx D]
  have a:k<p.length:=by omega
  refine bK a ?_;refine bA (Me p[k].e m.e) rfl ?_;simp;have z:(p.drop k).take (p.length - k)=p[k]::p.drop (k+1):=by rw[eZ (by simp),vJ a]
  have r:p[k]?=some p[k]:=dO a;refine⟨λw=>?_,λw=>?_⟩
  .have d:=Ex.tE.1 w;refine bK a ?_;refine bA (Kl m.bE p[k].bE y (hp _ (bU a))) rfl ?_;simp;refine bA (F5 (cR (m.bE.v+p[k].bE.v)) ((QI y (hp _ (bU a)) (by omega)).mono (by omega))) rfl ?_;rw[kW];simp[Et,b,A];have s:(p.drop (k+1)).take (p.length - (k+1))=p.drop (k+1):=by rw[eZ (by simp)]
   rw[s];refine⟨λn=>⟨⟨by omega,by omega⟩,by omega,HK (l:=p.take k++p.drop (k+1)) ?_ ?_⟩,λn=>⟨by omega,⟨by omega,by omega⟩,by omega,by omega,HK (l:=p.take k++⟨m.e,cR (m.bE.v+p[k].bE.v)⟩::p.drop (k+1)) ?_ ?_⟩⟩
   .rw[eZ (by simp;omega)];simp
   .simp[fS,h3,j,<- o,r,d,n]
   .rw[eZ (by simp;omega)];simp
   .simp[fS,h3,j,<- o,r,d,n]
  .refine⟨⟨b.symm,by omega⟩,t,⟨b.symm,by omega⟩,by omega,?_⟩;rw[z];refine HK (l:=p.take k++m::p[k]::p.drop (k+1)) ?_ ?_
   .rw[eZ (by simp;omega)];simp
   .have d:p[k].e≠m.e:=λh=>w (Ex.tE.2 h);simp[fS,h3,j,<- o,r,sx D,d]
 clear E;simp[g.v7,aB]at f ⊢;refine⟨λo=>?_,λo=>f λh=>by omega⟩;refine bK o ?_;refine bA (Me p[k].e m.e) rfl ?_;simp[A];refine⟨λu=>H (k+1) _ (aA.to [0,3,5] [((1,0),1)] (by simp)) ⟨by omega,λi h J=>?_⟩ (by omega),λu=>f λ_=>u⟩;by_cases x:i<k
 .exact B i h x
 .have:i=k:=by omega
  subst this;exact u
def qb(D B:Nat)(q:Rat):Prop:=∃ a:Int,q=mkRat a D/\a.natAbs<=B
def Hw{D B f:Nat}{x y:Rat}(h:qb D B x)(i:qb D f y)(d:D≠0):qb D (B+f) (x+y):=by obtain⟨a,rfl,j⟩:=h;obtain⟨b,rfl,k⟩:=i;refine⟨a+b,?_,by omega⟩;rw[Rat.mkRat_add_mkRat _ _ d d,<- Int.add_mul,Rat.mkRat_mul_right d]
def Up{D f B d:Nat}{x y:Rat}(j:qb D B x)(k:qb f d y):qb (D*f) (B*d) (x*y):=by
 obtain⟨a,rfl,h⟩:=j;obtain⟨b,rfl,i⟩:=k;refine⟨a*b,?_,?_⟩
 .rw[Rat.mkRat_mul_mkRat]
 .rw[Int.natAbs_mul];exact mT h i
def zip{D B:Nat}{x:Rat}(k:Nat)(d:k≠0)(f:qb D B x):qb (D*k) (B*k) x:=by
 obtain⟨a,rfl,b⟩:=f;refine⟨a*k,?_,?_⟩
 .rw[Rat.mkRat_mul_right d]
 .rw[Int.natAbs_mul];exact mT b (by simp)
def HZ(D:Nat):qb D 0 0:=⟨0,by simp,by simp⟩
def BL{D B b:Nat}{x:Rat}(h:qb D B x)(k:B<=b):qb D b x:=by obtain⟨a,e,h⟩:=h;exact⟨a,e,by omega⟩
def JU{D B n:Nat}{x:Rat}(h:qb D B x)(b:D≠0)(i:D<4294967296^n)(j:B<4294967296^n):(cR x).sm n:=by
 obtain⟨a,rfl,h⟩:=h;have d:(mkRat a D).num.natAbs<=B:=by rw[Rat.num_mkRat,bD b];exact dM (Int.natAbs_ediv_le_natAbs _ _) h
 have f:(mkRat a D).den<=D:=by rw[Rat.den_mkRat,bD b];exact Cc _ _
 refine⟨nR (oY d j),?_⟩;show(if (mkRat a D).den=1 then[]else lb (mkRat a D).den).length<=n;split
 .simp
 .exact nR (oY f i)
def Ex.code(e:Ex):Int:=e.a*36+e.b*6+e.c
def Ex.b0{e:Ex}:e.ok=true ↔ (0<=e.a/\e.a<=5/\0<=e.b/\e.b<=5/\0<=e.c/\e.c<=5/\e.a+e.b+e.c<=5):=by simp[Ex.ok]
def Ex.Bw{e:Ex}(h:e.ok=true):0<=e.code/\e.code<216:=by rw[Ex.b0]at h;unfold Ex.code;omega
def Ex.mH{x y:Ex}(a:x.ok=true)(b:y.ok=true):x.cmp y<0 ↔ x.code<y.code:=by rw[Ex.b0]at a b;unfold Ex.cmp Ex.code;(repeat' split)<;>omega
def Ex.vS{x y:Ex}(a:x.ok=true)(b:y.ok=true):0<x.cmp y ↔ y.code<x.code:=by rw[Ex.b0]at a b;unfold Ex.cmp Ex.code;(repeat' split)<;>omega
def Ex.mG{x y:Ex}(d:x.ok=true)(f:y.ok=true):x.code=y.code ↔ x=y:=by rw[Ex.b0]at d f;unfold Ex.code;obtain⟨a,b,c⟩:=x;obtain⟨h,i,j⟩:=y;simp only[Ex.mk.injEq]at *;omega
def iA{p:List aF}:bS p ↔ (∀ m∈p,m.ok=true)/\p.Pairwise (λx y=>y.e.code<x.e.code):=by
 have a:∀ {m:aF},m.ok=true->m.e.ok=true:=λh=>by simp[aF.ok]at h;exact h.1.1
 constructor
 .intro h;have b:∀ m∈p,m.ok=true:=λm t=>by obtain⟨i,f,rfl⟩:=Jt t;exact(h i f).1
  refine⟨b,Ns.2 λi j f o n=>?_⟩;obtain⟨d,rfl⟩:∃ d,j=i+1+d:=⟨j - i - 1,by omega⟩;clear n
  induction d with
  | zero =>
   have:=(h (i+1) o).2 (by omega);exact(Ex.mH (a (b _ (bU _))) (a (b _ (bU _)))).1 this
  | succ d u =>
   have k:=u (by omega);have r:=(h (i+1+(d+1)) o).2 (by omega);have s:=(Ex.mH (a (b _ (bU _))) (a (b _ (bU _)))).1 r;exact Int.lt_trans s k
 .rintro⟨b,k⟩ i f;refine⟨b _ (bU f),λw=>?_⟩;refine(Ex.mH (a (b _ (bU _))) (a (b _ (bU _)))).2 ?_;exact Ns.1 k (i - 1) i (by omega) f (by omega)
def pc:List aF->Ex->Rat
 | [],_=>0
 | m::p,e=>(if m.e=e then m.bE.v else 0)+pc p e
theorem Er(p q:List aF)(e:Ex):pc (p++q) e=pc p e+pc q e:=by
 induction p with
 | nil=>simp[pc,Bc]
 | cons m p a=>simp[pc,a,Af]
theorem D5{p:List aF}{e:Ex}(h:∀ m∈p,m.e≠e):pc p e=0:=by
 induction p with
 | nil=>rfl
 | cons m p b=>simp only[pc,bD (h m (by simp)),Bc];exact b λx a=>h x (by simp[a])
def BK{m:aF}{p:List aF}(h:bS (m::p)):pc (m::p) m.e=m.bE.v:=by have:=iA.1 h;simp only[pc,cH];rw[D5,qY];intro x b a;have:=(mS.1 this.2).1 x b;rw[a]at this;omega
def bS.tail{m:aF}{p:List aF}(h:bS (m::p)):bS p:=by have:=iA.1 h;exact iA.2 ⟨λx a=>this.1 x (by simp[a]),(mS.1 this.2).2⟩
theorem Ip{p q:List aF}(hp:bS p)(d:bS q)(h:∀ e,pc p e=pc q e):p=q:=by
 have b:∀ {m:aF},m.ok=true->m.e.ok=true/\m.bE.valid=true/\m.bE.v≠0:=λh=>by simp[aF.ok]at h;exact⟨h.1.1,h.1.2,h.2⟩
 induction p generalizing q with
 | nil =>
  cases q with
  | nil=>rfl
  | cons m q =>
   have:=h m.e;rw[BK d]at this;exact absurd this.symm (b ((iA.1 d).1 m (by simp))).2.2
 | cons m p t =>
  cases q with
  | nil =>
   have:=h m.e;rw[BK hp]at this;exact absurd this (b ((iA.1 hp).1 m (by simp))).2.2
  | cons i q =>
   have n:=b ((iA.1 hp).1 m (by simp));have o:=b ((iA.1 d).1 i (by simp));have k:m.e=i.e:=by
    obtain j|j|j:=Int.lt_trichotomy m.e.code i.e.code
    .have:=h i.e;rw[BK d,D5]at this
     .exact absurd this.symm o.2.2
     .intro x f a;obtain rfl|f:=cI.1 f
      .rw[a]at j;omega
      .have:=(mS.1 (iA.1 hp).2).1 x f;rw[a]at this;omega
    .exact(Ex.mG n.1 o.1).1 j
    .have:=h m.e;rw[BK hp,D5]at this
     .exact absurd this n.2.2
     .intro x f a;obtain rfl|f:=cI.1 f
      .rw[a]at j;omega
      .have:=(mS.1 (iA.1 d).2).1 x f;rw[a]at this;omega
   have r:m.bE=i.bE:=by have:=h m.e;rw[BK hp,k,BK d]at this;rw[<- sx n.2.1,<- sx o.2.1,this]
   have s:m=i:=by cases m;cases i;simp at k r;simp[k,r]
   subst s
   congr 1
   refine t hp.tail d.tail λe=>?_;have:=h e;simp only[pc]at this;exact Rat.add_left_cancel _ this
def pins:List aF->Ex->Rat->List aF
 | [],e,q=>[⟨e,cR q⟩]
 | m::p,e,q=>if 0<m.e.cmp e then m::pins p e q else if m.e=e then(if q+m.bE.v=0 then p else⟨e,cR (q+m.bE.v)⟩::p)else⟨e,cR q⟩::m::p
def Mg(p:List aF)(e:Ex)(q:Rat):fS p e q=if e.ok=false\/q=0 then p else pins p e q:=by
 unfold fS;split
 .rfl
 .rename_i h
  induction p with
  | nil=>simp[pat,pins]
  | cons m p b =>
   by_cases a:0<m.e.cmp e
   .simp only[pat,aX a,List.getElem?_cons_succ,GV,NF,pins,<- b];cases p[pat p e]? with
    | none=>simp
    | some x=>simp only[xX];(repeat' split)<;>rfl
   .simp[pat,pins,a]
def aF.b0{m:aF}:m.ok=true ↔ m.e.ok=true/\m.bE.valid=true/\m.bE.v≠0:=by simp[aF.ok,and_assoc]
theorem yaw{p:List aF}{e:Ex}{q:Rat}{x:aF}(h:x∈pins p e q):x.e=e\/x∈p:=by
 induction p with
 | nil=>simp[pins]at h;exact .inl (by rw[h])
 | cons m p a =>
  simp only[pins]at h;split at h
  .obtain rfl|h:=cI.1 h
   .exact .inr (by simp)
   .obtain h|h:=a h
    .exact .inl h
    .exact .inr (by simp[h])
  .split at h
   .split at h
    .exact .inr (by simp[h])
    .obtain rfl|h:=cI.1 h
     .exact .inl rfl
     .exact .inr (by simp[h])
   .obtain rfl|h:=cI.1 h
    .exact .inl rfl
    .exact .inr h
theorem yav{p:List aF}{e:Ex}{q:Rat}(hp:bS p)(i:e.ok=true)(s:q≠0):bS (pins p e q):=by
 have d:∀ {r:Rat},r≠0->(⟨e,cR r⟩:aF).ok=true:=λ{r} h=>aF.b0.2 ⟨i,vD r,by rw[kW];exact h⟩
 induction p with
 | nil=>exact iA.2 ⟨λm o=>by simp[pins]at o;rw[o];exact d s,by simp[pins]⟩
 | cons m p t =>
  have h:=iA.1 hp;have n:=(aF.b0.1 (h.1 m (by simp))).1;have j:=(mS.1 h.2).1;simp only[pins];split
  .rename_i k;have f:=iA.1 (t hp.tail);refine iA.2 ⟨λx a=>?_,mS.2 ⟨λx a=>?_,f.2⟩⟩
   .obtain rfl|a:=cI.1 a
    .exact h.1 x (by simp)
    .exact f.1 x a
   .obtain b|b:=yaw a
    .rw[b];exact(Ex.vS n i).1 k
    .exact j x b
  .rename_i k;split
   .rename_i f;split
    .exact hp.tail
    .rename_i b;refine iA.2 ⟨λx a=>?_,mS.2 ⟨λx a=>?_,(iA.1 hp.tail).2⟩⟩
     .obtain rfl|a:=cI.1 a
      .exact d b
      .exact h.1 x (by simp[a])
     .have:=j x a;rw[f]at this;exact this
   .rename_i f;have b:m.e.code<e.code:=by have u:¬ (e.code<m.e.code):=λh=>k ((Ex.vS n i).2 h);have w:¬ (m.e.code=e.code):=λh=>f ((Ex.mG n i).1 h);omega
    refine iA.2 ⟨λx a=>?_,mS.2 ⟨λx a=>?_,h.2⟩⟩
    .obtain rfl|a:=cI.1 a
     .exact d s
     .exact h.1 x a
    .obtain rfl|a:=cI.1 a
     .exact b
     .exact Int.lt_trans (j x a) b
theorem yfo(p:List aF)(e:Ex)(q:Rat)(a:Ex):pc (pins p e q) a=pc p a+if e=a then q else 0:=by
 induction p with
 | nil=>simp only[pins,pc,kW,qY,Bc]
 | cons m p f =>
  simp only[pins];split
  .simp only[pc,f,Af]
  .split
   .rename_i h;split
    .rename_i d;simp only[pc,h];by_cases b:e=a
     .simp only[aX b];rw[Cb (m.bE.v) (pc p a),Af,Cb m.bE.v q,d,qY]
     .simp[b,Bc,qY]
    .simp only[pc,h,kW];by_cases b:e=a
     .simp only[aX b];rw[Cb q m.bE.v,Af,Af,Cb q (pc p a)]
     .simp[b,Bc,qY]
   .simp only[pc,kW];rw[Cb]
def LC{p:List aF}(e:Ex)(q:Rat)(hp:bS p):bS (fS p e q):=by
 rw[Mg];split
 .exact hp
 .rename_i h;exact yav hp (by obtain a|a:=iK e.ok;exact a;exact absurd (.inl a) h) (λa=>h (.inr a))
def KI(p:List aF)(e:Ex)(q:Rat)(a:Ex):pc (fS p e q) a=pc p a+if e.ok=true/\e=a then q else 0:=by
 rw[Mg];split
 .rename_i h;obtain h|h:=h
  .simp[h,qY]
  .simp[h,qY]
 .rename_i h;have:e.ok=true:=by obtain b|b:=iK e.ok;exact b;exact absurd (.inl b) h
  rw[yfo];simp[this]
def tU{p:List aF}(h:bS p):p.length<=216:=by
 have b:=iA.1 h;have:∀ (p:List aF) (n:Int),(∀ m∈p,0<=m.e.code/\m.e.code<n)->p.Pairwise (λx y=>y.e.code<x.e.code)->(p.length:Int)<=n\/p=[]:=by
  intro p
  induction p with
  | nil=>intro n _ _;exact .inr rfl
  | cons m p o =>
   intro n a j;have d:=mS.1 j;rcases o m.e.code (λx i=>⟨(a x (by simp[i])).1,d.1 x i⟩) d.2 with f|f
   .have:=a m (by simp);left;simp;omega
   .have:=a m (by simp);left;subst f;simp;omega
 obtain a|a:=this p 216 (λm k=>Ex.Bw (aF.b0.1 (b.1 m k)).1) b.2
 .omega
 .simp[a]
theorem Hu{p:List aF}(hp:bS p){m:aF}(hm:m∈p):pc p m.e=m.bE.v:=by
 induction p with
 | nil=>simp at hm
 | cons x p d =>
  obtain rfl|hm:=cI.1 hm
  .exact BK hp
  .have a:=(mS.1 (iA.1 hp).2).1 m hm;have b:x.e≠m.e:=λh=>by rw[h]at a;omega
   simp only[pc,bD b,Bc];exact d hp.tail hm
theorem yfn{p:List aF}(hp:bS p)(k:Nat)(e:Ex):pc (p.take k) e=0\/pc (p.take k) e=pc p e:=by
 induction p generalizing k with
 | nil=>simp[pc]
 | cons x p d =>
  cases k with
  | zero=>simp[pc]
  | succ k =>
   by_cases h:x.e=e
   .right;subst h;rw[BK hp,GV];simp only[pc,cH];rw[D5,qY];intro y b a;have:=(mS.1 (iA.1 hp).2).1 y (iC b);rw[a]at this;omega
   .simp only[GV,pc,bD h,Bc];exact d hp.tail k
def lU(D B:Nat)(p:List aF):Prop:=∀ e,qb D B (pc p e)
def AK{D B n:Nat}{p:List aF}(h:lU D B p)(hp:bS p)(i:D≠0)(b:D<4294967296^n)(d:B<4294967296^n):fP p n:=by intro m a;have f:=aF.b0.1 ((iA.1 hp).1 m a);have:=JU (h m.e) i b d;rw[Hu hp a,sx f.2.1]at this;exact this
def SF(D:Nat):lU D 0 []:=λ_=>HZ D
def SG{D B a:Nat}{p:List aF}(h:lU D B p){q:Rat}(f:qb D a q)(d:D≠0)(e:Ex):lU D (B+a) (fS p e q):=by
 intro b;rw[KI];split
 .exact Hw (h b) f d
 .exact BL (by rw[qY];exact h b) (by omega)
def D1:bS []:=λi h=>by simp at h
def eN(p q:List aF):List aF:=q.foldl (λo m=>fS o m.e m.bE.v) p
theorem xU{p:List aF}(q:List aF)(hp:bS p):bS (eN p q):=by
 induction q generalizing p with
 | nil=>exact hp
 | cons m q a=>exact a (LC _ _ hp)
theorem zP(p:List aF){q:List aF}(a:∀ m∈q,m.ok=true)(e:Ex):pc (eN p q) e=pc p e+pc q e:=by
 induction q generalizing p with
 | nil=>simp[eN,pc,qY]
 | cons m q d =>
  have:=d (fS p m.e m.bE.v) λx b=>a x (by simp[b]);show pc (eN (fS p m.e m.bE.v) q) e=_;rw[this,KI];have:=(aF.b0.1 (a m (by simp))).1;simp[pc,this,Af]
def bS.take{p:List aF}(hp:bS p)(k:Nat):bS (p.take k):=by have:=iA.1 hp;exact iA.2 ⟨λx a=>this.1 x (iC a),this.2.sublist (Js _ _)⟩
def yaq{D B:Nat}{p:List aF}(h:lU D B p)(hp:bS p)(k:Nat):lU D B (p.take k):=by
 intro e;obtain a|a:=yfn hp k e
 .rw[a];exact BL (HZ D) (by omega)
 .rw[a];exact h e
def ye8{D B a:Nat}{p q:List aF}(h:lU D B p)(b:lU D a q)(f:bS q)(d:D≠0):lU D (B+a) (eN p q):=by intro e;rw[zP p (iA.1 f).1];exact Hw (h e) (b e) d
theorem V3{p q:List aF}{k:Nat}(h:k<q.length):eN p (q.take (k+1))=fS (eN p (q.take k)) q[k].e q[k].bE.v:=by unfold eN;rw[ed h,yr3];rfl
def yhh(p q:List aF)(D B n:Nat)(hp:bS p)(b:bS q)(o:lU D B p)(r:lU D n q)(a:D≠0)(i:D<4294967296^1048576)(h:B+n<4294967296^1048576) :
  zS 91 [.sl (ens p),.sl (ens q)] (.sl (ens (eN p q))):=by
 have j:fP p 1048576:=AK o hp a i (oY (Nat.le_add_right _ _) h);have d:fP q 1048576:=AK r b a i (oY (Nat.le_add_left _ _) h);have w:=tU hp;have x:=tU b;have t:∀ k,fP (eN p (q.take k)) 1048576:=λk=>AK (ye8 o (yaq r b k) (b.take k) a) (xU _ hp) a i h;clear i h;refine Sp.vz c.nr λ_=>?_;simp[g.nr];refine bA (Ee p j (by omega)) rfl ?_;simp;refine bA (Ee q d (by omega)) rfl ?_;simp[zG hp,zG b]
 refine b6 (S:=λk:Nat=>aB [(1,hW q),(5,.p (.sl (ens (eN p (q.take k))))),(6,f8 k)] []) (I:=λk=>k<=q.length) (m:=λk=>q.length - k) 0
  (aA.to [1,5,6] [] (by simp[eN])) (by omega) ?_
 rintro k A R u E z;have s:=aZ k;simp[g.vi,aB];refine⟨λf=>?_,λf=>z _ _ ?_⟩
 .refine bK f ?_;have y:=xU (q.take k) hp;have C:=tU y;refine bA (KO (eN p (q.take k)) q[k] (t k) (by omega) (d _ (bU f)) (aF.b0.1 (b k f).1).2.1) rfl ?_;simp[s];exact u (k+1) _ (aA.to [1,5,6] [] (by simp[V3 f])) (by omega) (by omega)
 .have:k=q.length:=by omega
  subst this;simp
def Ex.add(x y:Ex):Ex:=⟨x.a+y.a,x.b+y.b,x.c+y.c⟩
def gM(m:aF)(q:List aF)(o:List aF):List aF:=q.foldl (λo a=>fS o (m.e.add a.e) (m.bE.v*a.bE.v)) o
def gE(p q:List aF):List aF:=p.foldl (λo m=>gM m q o) []
theorem V7{m:aF}{o q:List aF}{k:Nat}(h:k<q.length):gM m (q.take (k+1)) o=fS (gM m (q.take k) o) (m.e.add q[k].e) (m.bE.v*q[k].bE.v):=by unfold gM;rw[ed h,yr3];rfl
theorem V5{p q:List aF}{k:Nat}(h:k<p.length):gE (p.take (k+1)) q=gM p[k] q (gE (p.take k) q):=by unfold gE;rw[ed h,yr3];rfl
theorem Ec{m:aF}(q:List aF){o:List aF}(h:bS o):bS (gM m q o):=by
 induction q generalizing o with
 | nil=>exact h
 | cons x q a=>exact a (LC _ _ h)
theorem AX(p q:List aF):bS (gE p q):=by
 suffices ∀ o,bS o->bS (p.foldl (λo m=>gM m q o) o) from this [] D1
 induction p with
 | nil=>exact λo h=>h
 | cons x p a=>exact λo h=>a _ (Ec q h)
theorem KN{D a B b C:Nat}{m:aF}{q o:List aF}(i:qb D B m.bE.v)(f:∀ x∈q,qb a b x.bE.v)(d:lU (D*a) C o)(h:D*a≠0):lU (D*a) (C+q.length*(B*b)) (gM m q o):=by
 induction q generalizing o C with
 | nil=>simpa[gM]using d
 | cons x q k =>
  have:=k (λy j=>f y (by simp[j])) (SG d (Up i (f x (by simp))) h (m.e.add x.e));intro e;refine BL (this e) ?_;simp[sT];omega
theorem KK{D a B b:Nat}{p q:List aF}(hp:∀ x∈p,qb D B x.bE.v)(f:∀ x∈q,qb a b x.bE.v)(d:D*a≠0):lU (D*a) (p.length*(q.length*(B*b))) (gE p q):=by
 suffices ∀ o C,lU (D*a) C o->lU (D*a) (C+p.length*(q.length*(B*b))) (p.foldl (λo m=>gM m q o) o) by have:=this [] 0 (SF _);rw[sG]at this;exact this
 induction p with
 | nil=>intro o C h;simpa using h
 | cons x p j =>
  intro o C h;have:=j (λy i=>hp y (by simp[i])) _ _ (KN (hp x (by simp)) f h d);intro e;refine BL (this e) ?_;simp[sT];omega
def Eb{D B:Nat}{p:List aF}(h:lU D B p)(hp:bS p):∀ x∈p,qb D B x.bE.v:=λx a=>by rw[<- Hu hp a];exact h _
def yf2(p q:List aF)(D E B G:Nat)(hp:bS p)(F:bS q)(h1:lU D B p)(h2:lU E G q)(J:D≠0)(z:E≠0)(X:D*E<4294967296^1048576)
  (W:46656*(B*G)<4294967296^1048576) (hs:fP p 524288) (u:fP q 524288) :
  zS 84 [.sl (ens p),.sl (ens q)] (.sl (ens (gE p q))):=by
 have ad:=tU hp;have M:=tU F;have O:=Eb h1 hp;have Q:=Eb h2 F;have s:D*E≠0:=yr2 J z;have L:∀ x∈p,∀ y∈q,(cR (x.bE.v*y.bE.v)).sm 1048576:=λx r y hy=>(QG (hs x r) (u y hy) (by omega)).mono (by omega);have hb:∀ i k,(h:i<p.length)->fP (gM p[i] (q.take k) (gE (p.take i) q)) 1048576:=λi k h=>by
  have U:=KN (m:=p[i]) (q:=q.take k) (O _ (bU h)) (λx r=>Q x (iC r)) (KK (p:=p.take i) (λx r=>O x (iC r)) Q s) s;refine AK U (Ec _ (AX _ _)) s X (oY ?_ W);have V:(p.take i).length+1<=216:=by simp;omega
  have h5:(q.take k).length<=216:=by simp;omega
  generalize B*G=C at *
  calc (p.take i).length*(q.length*C)+(q.take k).length*C<=(p.take i).length*(216*C)+1*(216*C):=Nat.add_le_add (Aa _ (jU _ M)) (by rw[Nat.one_mul];exact jU _ h5)
   _=((p.take i).length+1)*(216*C):=by rw[sT]
   _<=216*(216*C):=jU _ V
   _=46656*C:=by omega
 clear X W;refine Sp.vz c.nj λ_=>?_;simp[g.nj];refine bA (Ee p (hs.mono (by omega)) (by omega)) rfl ?_;simp;refine bA (Ee q (u.mono (by omega)) (by omega)) rfl ?_;simp[zG hp,zG F]
 refine b6 (S:=λi:Nat=>aB [(0,hW p),(1,hW q),(5,.p (.sl (ens (gE (p.take i) q)))),(6,f8 i)] []) (I:=λi=>i<=p.length) (m:=λi=>p.length - i) 0
  ((aA.freeze (t:=5) rfl).trans (aA.to [0,1,5,6] [] (by simp[gE]))) (by omega) ?_
 rintro i U R Y hr r;have Z:=aZ i;simp[g.vg,aB];refine⟨λn=>?_,λn=>r _ _ ?_⟩;rotate_left
 .have:i=p.length:=by omega
  subst this;simp
 clear r hr
 refine b6 (S:=λk:Nat=>aB [(0,hW p),(1,hW q),(5,.p (.sl (ens (gM p[i] (q.take k) (gE (p.take i) q))))),(6,f8 i),(7,f8 k)] []) (I:=λk=>k<=q.length) (m:=λk=>q.length - k) 0
  (aA.to [0,1,5,6,7] [] (by simp[gM])) (by omega) ?_
 rintro k V R2 K N A;have e2:=aZ k;simp[g.vf,aB];refine⟨λo=>?_,λo=>A _ _ ?_⟩;rotate_left
 .have:k=q.length:=by omega
  subst this;simp[Z];exact Y (i+1) _ (aA.to [0,1,5,6] [] (by simp[V5 n])) (by omega) (by omega)
 clear A N Y;refine bK n ?_;refine bK o ?_;refine bA (KB p[i].bE q[k].bE ((hs _ (bU n)).mono (by omega)) ((u _ (bU o)).mono (by omega))) rfl ?_;simp;have w:∀ {e:Ex},e.ok=true->(-100<e.a/\e.a<100)/\(-100<e.b/\e.b<100) /\ -100<e.c/\e.c<100:=λh=>by rw[Ex.b0]at h;omega
 have o1:=w (aF.b0.1 (hp i n).1).1;have o2:=w (aF.b0.1 (F k o).1).1;have ea:IntKind.i64.wrap (p[i].e.a+q[k].e.a)=p[i].e.a+q[k].e.a:=cT;have eb:IntKind.i64.wrap (p[i].e.b+q[k].e.b)=p[i].e.b+q[k].e.b:=cT;have ec:IntKind.i64.wrap (p[i].e.c+q[k].e.c)=p[i].e.c+q[k].e.c:=cT;refine jT λH d j f=>?_;simp[g.qw];refine bK n ?_;refine bK o ?_;simp[ea];refine d _ ?_;clear d f j;refine jT λH d j f=>?_;simp[g.qw];refine bK n ?_;refine bK o ?_;simp[eb];refine d _ ?_;clear d f j;refine jT λH d j f=>?_;simp[g.qw];refine bK n ?_;refine bK o ?_;simp[ec];refine d _ ?_;clear d f j;refine jT λH d j f=>?_;simp[g.qw];refine f _ _ ?_;clear d f j;simp;have hv:=Ec (m:=p[i]) (q.take k) (AX (p.take i) q);have hl:=tU hv;refine bA (KO (gM p[i] (q.take k) (gE (p.take i) q)) ⟨p[i].e.add q[k].e,cR (p[i].bE.v*q[k].bE.v)⟩ (hb i k n) (by omega) (L _ (bU n) _ (bU o)) (vD _)) rfl ?_;simp[e2];exact K (k+1) _ (aA.to [0,1,5,6,7] [] (by simp[V7 o,kW])) (by omega) (by omega)
def Vr(x:aT)(a:x.sm 1048576):zS 60 [enc x] (.sl (ens (fS [] ⟨0,0,0⟩ x.v))):=by refine Sp.vz c.m8 λ_=>?_;simp[g.m8];refine bA (zV x (a.mono (by omega))) rfl ?_;simp;have:=KO [] ⟨⟨0,0,0⟩,cR x.v⟩ (by intro m b;simp at b) (by simp) (Uz a) (vD _);rw[kW]at this;refine bA this rfl ?_;simp
def yd(q:Rat):List aF:=fS [] ⟨0,0,0⟩ q
def YS(q:Rat):bS (yd q):=LC _ _ D1
def yuy{q:Rat}{m:aF}(h:m∈yd q):m.bE=cR q:=by
 unfold yd at h;rw[Mg]at h;split at h
 .simp at h
 .simp[pins]at h;rw[h]
def yvf(p:List aF)(x:aT)(D b B f:Nat)(hp:bS p)(k:lU D B p)(n:qb b f x.v)(h:D≠0)(a:b≠0)(j:D*b<4294967296^1048576)
  (i:46656*(B*f)<4294967296^1048576) (hs:fP p 524288) (d:x.sm 524288) :
  zS 92 [.sl (ens p),enc x] (.sl (ens (gE p (yd x.v)))):=by
 have o:lU b f (yd x.v):=λe=>by have:=SG (SF b) n a ⟨0,0,0⟩ e;rw[sG]at this;exact this
 have r:fP (yd x.v) 524288:=λm t=>by rw[yuy t];exact Uz d
 have s:=yf2 p (yd x.v) D b B f hp (YS _) k o h a j i hs r;clear j i;refine Sp.vz c.aaa λ_=>?_;simp[g.aaa];refine bA (Vr x (d.mono (by omega))) rfl ?_;simp;refine bA s rfl ?_;simp
def Ex.unit(i:Int):Ex:=if i=0 then⟨1,0,0⟩else if i=1 then⟨0,1,0⟩else⟨0,0,1⟩
def tb(i:Int):List aF:=if 0<=i/\i<3 then[⟨Ex.unit i,cR 1⟩]else[]
def yut(i:Int):zS 93 [g6 i] (.sl (ens (tb i))):=by
 refine Sp.vz c.aab λ_=>?_;simp[g.aab];have a:=Cy 1 1 (by omega) (by omega) (by omega);have f:Rat.divInt 1 1=1:=rfl;rw[f]at a;refine⟨λh=>by simp[tb,show ¬ 0<=i by omega],λh=>⟨λb=>by simp[tb,show ¬ i<3 by omega],λb=>?_⟩⟩;refine bA a rfl ?_;have d:i=0\/i=1\/i=2:=by omega
 obtain rfl|rfl|rfl:=d
 .simp[tb,Ex.unit]
 .simp[tb,Ex.unit]
 .simp[tb,Ex.unit]
def WM(p q:List aF)(hp:fP p 1048576)(E:p.length<=1073741824):zS 89 [.sl (ens p),.sl (ens q)] (.bool (decide (p=q))):=by
 refine Sp.vz c.nq λ_=>?_;simp[g.nq];refine⟨λh=>?_,λh=>λA=>h (by rw[A])⟩;have j:p.length=q.length:=by omega
 refine b6 (S:=λk:Nat=>aB [(0,hW p),(1,hW q),(5,f8 k)] []) (I:=λk=>k<=p.length/\p.take k=q.take k) (m:=λk=>p.length - k) 0
  (aA.to [0,1,5] [] (by simp)) ⟨by omega,by simp⟩ ?_
 rintro k ⟨D,n⟩ R B s C;have t:=aZ k;simp[g.vh,aB];refine⟨λi=>?_,λi=>C _ _ ?_⟩
 .have b:k<q.length:=by omega
  have d:p[k]≠q[k]->p≠q:=λh u=>by subst u;exact h rfl
  refine bK i ?_;refine bK b ?_;refine⟨λa=>s _ ?_,λa o r=>?_⟩
  .have:p≠q:=d λh=>by rw[h]at a;simp at a
   simp[this]
  refine bK i ?_;refine bK b ?_;refine bA (wF p[k].bE q[k].bE ((hp _ (bU i)).mono (by omega))) rfl ?_;by_cases f:p[k].bE=q[k].bE
  .simp[f,t];have w:p[k]=q[k]:=by
    have:p[k].e=q[k].e:=by generalize p[k].e=x at *;generalize q[k].e=y at *;cases x;cases y;simp at a o r;simp[a,o,r]
    generalize p[k]=x at *;generalize q[k]=y at *;cases x;cases y;simp at this f;simp[this,f]
   exact B (k+1) _ (aA.to [0,1,5] [] (by simp)) ⟨by omega,by rw[ed i,ed b,n,w]⟩ (by omega)
  .have z:p≠q:=d λh=>f (by rw[h]);simp[f];exact s _ (by simp[z])
 .have a:p=q:=by rw[<- List.take_length (l:=p),<- List.take_length (l:=q),<- j,show p.length=k by omega];exact n
  simp[a]
inductive GW where
 | mk (q:aT) (cost:Int) (inf:Bool) (set:UInt64) (aR:List aF) (parts:List GW)
namespace GW
def q:GW->aT|mk q _ _ _ _ _=>q
def cost:GW->Int|mk _ c _ _ _ _=>c
def inf:GW->Bool|mk _ _ i _ _ _=>i
def set:GW->UInt64|mk _ _ _ s _ _=>s
def aR:GW->List aF|mk _ _ _ _ p _=>p
def parts:GW->List GW|mk _ _ _ _ _ ps=>ps
mutual
def en:GW->PV
 | mk q c i s p d=>.agg [.bool q.neg,.sl (ens q.num),.sl (ens q.den),g6 c,.bool i,.int .u64 s.toNat,.sl (ens p),.sl (yZ d)]
def yZ:List GW->List PV
 | []=>[]
 | w::d=>en w::yZ d
end
end GW
instance:Enc GW:=⟨GW.en,8,by decide,λw=>by cases w;rfl⟩
theorem ygq(ps:List GW):GW.yZ ps=ens ps:=by
 induction ps with
 | nil=>simp[-gW,GW.yZ,ens]
 | cons w ps d=>simp[-gW,GW.yZ,ens,d];rfl
@[simp] theorem yon(w:GW):enc w=.agg [.bool w.q.neg,.sl (ens w.q.num),.sl (ens w.q.den),g6 w.cost,.bool w.inf,.int .u64 w.set.toNat,.sl (ens w.aR),.sl (ens w.parts)]:=by cases w;show GW.en _=_;simp[GW.en,ygq];simp[GW.q,GW.cost,GW.inf,GW.set,GW.aR,GW.parts]
@[simp] theorem ynd:Enc.sz GW=8:=rfl
def GW.ext{v w:GW}(d:v.q=w.q)(f:v.cost=w.cost)(h3:v.inf=w.inf)(h:v.set=w.set)(i:v.aR=w.aR)(j:v.parts=w.parts):v=w:=by cases v;cases w;simp[GW.q,GW.cost,GW.inf,GW.set,GW.aR,GW.parts]at *;simp[*]
noncomputable instance:DecidableEq GW:=λ_ _=>Classical.propDecidable _
structure aC where
 kind:Int
 parts:List Int
 deriving DecidableEq
instance:Enc aC:=⟨λr=>.agg [g6 r.kind,.sl (ens r.parts)],2,by decide,λ_=>rfl⟩
@[simp] theorem ybz(r:aC):enc r=.agg [g6 r.kind,.sl (ens r.parts)]:=rfl
@[simp] theorem yhn:Enc.sz aC=2:=rfl
def aC.ok(r:aC):Bool:=if r.kind=6 then decide (2<=r.parts.length/\r.parts.length<=3/\∀ k∈r.parts,1<=k/\k<=5)else decide (1<=r.kind/\r.kind<=5/\r.parts=[])
def oG(r:aC):zS 59 [enc r] (.bool r.ok):=by
 refine Sp.vz c.bf λ_=>?_;simp[g.bf];refine⟨λd=>⟨λh=>?_,λh=>⟨λl=>?_,λl=>?_⟩⟩,λd=>⟨λh=>⟨λl=>?_,λl=>?_⟩,λh=>?_⟩⟩
 .simp[aC.ok,d];intro j;omega
 .simp[aC.ok,d];intro j C;omega
 rotate_left
 .simp[aC.ok,d,h,l]
 .simp[aC.ok,d];intro j;omega
 .simp[aC.ok,d];intro j;omega
 refine b6 (S:=λk:Nat=>aB [(1,i0 1),(3,f8 k)] [(1,⟨2,[.p (enc r)]⟩)]) (I:=λk=>k<=r.parts.length/\∀ i,(h:i<r.parts.length)->i<k->1<=r.parts[i]/\r.parts[i]<=5) (m:=λk=>r.parts.length - k) 0
  (aA.to [1,3] [((1,0),1)] (by simp)) ⟨by omega,λi h H=>by omega⟩ ?_
 rintro k ⟨J,t⟩ R G y s;have z:=aZ k;simp[g.vc,aB];refine⟨λn=>?_,λn=>s _ _ ?_⟩
 .have f:¬ (1<=r.parts[k]/\r.parts[k]<=5)->r.ok=false:=λF=>by simp only[aC.ok,aX d,decide_eq_false_iff_not];exact λj=>F (j.2.2 _ (bU n))
  refine bK n ?_;refine⟨λD=>y _ ?_,λD=>?_⟩
  .simp[f (by omega)]
  refine bK n ?_;simp[z];refine⟨λE=>y _ ?_,λE=>G (k+1) _ (aA.to [1,3] [((1,0),1)] (by simp)) ⟨by omega,λi h u=>?_⟩ (by omega)⟩
  .simp[f (by omega)]
  .by_cases o:i<k
   .exact t i h o
   .have:i=k:=by omega
    subst this;omega
 .have:r.ok=true:=by simp only[aC.ok,aX d,decide_eq_true_eq];refine⟨by omega,by omega,λx s=>?_⟩;obtain⟨i,u,rfl⟩:=Jt s;exact t i u (by omega)
  simp[this]
def OS(r s:aC):zS 37 [enc r,enc s] (.bool (decide (r=s))):=by
 refine Sp.vz c.jh λo=>?_;simp[g.jh];refine⟨λt=>⟨λx=>?_,λx=>λh=>x (by rw[h])⟩,λt h=>t (by rw[h])⟩;have j:r.parts.length=s.parts.length:=by omega
 have n:r.parts.length<=maxLen:=by simp only[ybz,rV,nY]at o;simpa[Mt]using o.1.2.1.1
 unfold maxLen at n
 refine b6 (S:=λk:Nat=>aB [(2,i0 1),(3,i0 2),(5,f8 k)] [(1,⟨2,[.p (enc r)]⟩),(2,⟨2,[.p (enc s)]⟩)]) (I:=λk=>k<=r.parts.length/\r.parts.take k=s.parts.take k) (m:=λk=>r.parts.length - k) 0
  (aA.to [2,3,5] [((2,0),1),((3,0),2)] (by simp)) ⟨by omega,by simp⟩ ?_
 rintro k ⟨E,u⟩ R z C D;simp[g.uy,aB];refine⟨λd=>?_,λd=>D _ _ ?_⟩
 .have i:k<s.parts.length:=by omega
  have y:=aZ k;refine bK d ?_;refine bK i ?_;simp[y];refine⟨λf=>?_,λf=>?_⟩
  .exact z (k+1) _ (aA.to [2,3,5] [((1,0),1),((2,0),2)] (by simp)) ⟨by omega,by rw[ed d,ed i,u,f]⟩ (by omega)
  .refine C _ ?_;have:r≠s:=λh=>f (by subst h;rfl);simp[this]
 .have f:r=s:=by
   have:r.parts=s.parts:=by rw[<- List.take_length (l:=r.parts),<- List.take_length (l:=s.parts),<- j,show r.parts.length=k by omega];exact u
   cases r;cases s;simp at t this;simp[t,this]
  simp[f]
inductive GW.sm (n:Nat):GW->Prop
 | mk {q:aT} {c:Int} {i:Bool} {s:UInt64} {p:List aF} {ps:List GW}:q.sm n->fP p n->p.length<=n->ps.length<=n->(∀ w∈ps,GW.sm n w)->GW.sm n (.mk q c i s p ps)
def GW.sm.q{n:Nat}{w:GW}(h:w.sm n):w.q.sm n:=by cases h;assumption
def GW.sm.aR{n:Nat}{w:GW}(h:w.sm n):fP w.aR n:=by cases h;assumption
def GW.sm.len{n:Nat}{w:GW}(h:w.sm n):w.aR.length<=n:=by cases h;assumption
def GW.sm.uU{n:Nat}{w:GW}(h:w.sm n):w.parts.length<=n:=by cases h;assumption
def GW.sm.parts{n:Nat}{w:GW}(h:w.sm n):∀ x∈w.parts,x.sm n:=by cases h;assumption
def GW.sm.ind{n:Nat}{M:GW->Prop}(h:∀ v,v.sm n->(∀ w∈v.parts,M w)->M v):∀ v,v.sm n->M v:=by
 intro v j
 induction j with|@mk q c i s p ps hq hp d f k l=>exact h _ (.mk hq hp d f k) l
def Iy(v:GW)(j:v.sm 1048576):∀ w:GW,zS 40 [enc v,enc w] (.bool (decide (v=w))):=by
 revert v;refine GW.sm.ind λv j H w=>?_;refine Sp.vz c.cj λE=>?_;simp[g.cj];refine bA (wF v.q w.q (j.q.mono (by omega))) rfl ?_;simp;refine⟨λr=>⟨λs=>⟨λt=>⟨λn=>?_,λn h=>n (by rw[h])⟩,λt h=>t (by rw[h])⟩,λs h=>s (by rw[h])⟩,λr h=>r (by rw[h])⟩;have n:v.set=w.set:=UInt64.toNat_inj.1 (by omega);refine bA (WM v.aR w.aR j.aR (by have:=j.len;omega)) rfl ?_;simp;refine⟨λu=>⟨λx=>?_,λx h=>x (by rw[h])⟩,λu h=>u (by rw[h])⟩;have i:v.parts.length=w.parts.length:=by omega
 have z:=j.uU
 refine b6 (S:=λk:Nat=>aB [(2,i0 1),(3,i0 2),(5,f8 k)] [(1,⟨8,[.p (enc v)]⟩),(2,⟨8,[.p (enc w)]⟩)]) (I:=λk=>k<=v.parts.length/\v.parts.take k=w.parts.take k) (m:=λk=>v.parts.length - k) 0
  (aA.to [2,3,5] [((2,0),1),((3,0),2)] (by simp)) ⟨by omega,by simp⟩ ?_
 rintro k ⟨J,y⟩ R D F G;have C:=aZ k;simp[g.u3,aB];refine⟨λo=>?_,λo=>G _ _ ?_⟩
 .have f:k<w.parts.length:=by omega
  refine bK o ?_;refine bK f ?_;refine bA (H _ (bU o) w.parts[k]) ?_ ?_
  .simp
  simp[C];refine⟨λd=>?_,λd=>?_⟩
  .exact D (k+1) _ (aA.to [2,3,5] [((1,0),1),((2,0),2)] (by simp)) ⟨by omega,by rw[ed o,ed f,y,d]⟩ (by omega)
  .refine F _ ?_;have:v≠w:=λh=>d (by subst h;rfl);simp[this]
 .have d:v=w:=by refine GW.ext r s t n u ?_;rw[<- List.take_length (l:=v.parts),<- List.take_length (l:=w.parts),<- i,show v.parts.length=k by omega];exact y
  simp[d]
def FZ(r:aC)(i:Nat)(h:i<r.parts.length):zS 61 [enc r,g6 i] (enc (⟨r.parts[i],[]⟩:aC)):=by refine Sp.vz c.cq λ_=>?_;simp[g.cq];refine bK h ?_;simp
section
variable {α : Type} (key : α -> List Int) (up : α -> α -> α) (nw : α -> α)
def gS(d:List α)(y : α):List α :=
 match d with
 | []=>[nw y]
 | [z]=>if key z=key y then[up z y]else[z,nw y]
 | z::r=>z::gS r y
def eU(l:List α):List α := l.foldl (gS key up nw) []
def eJ(s:List α)(x : α):List α :=
 match s with
 | []=>[x]
 | z::r=>if key x<key z then x::z::r else z::eJ r x
def eX(d:List α)(x : α):List α :=
 match d with
 | []=>[nw x]
 | z::r=>if key z<key x then z::eX r x else if key z=key x then up z x::r else nw x::z::r
def bW(l:List α):List α := l.foldl (eJ key) []
def nZ(l:List α):List α := l.foldl (eX key up nw) []
variable {key up nw} (uv:∀ a b,key (up a b)=key a) (rY:∀ a,key (nw a)=key a)
def BO(a b:List Int):a<b\/a=b\/b<a:=by
 by_cases h:a<b
 .exact .inl h
 .by_cases d:b<a
  .exact .inr (.inr d)
  .exact .inr (.inl (List.le_antisymm (List.not_lt.1 d) (List.not_lt.1 h)))
def PA{a b c:List Int}(h:¬ b<a)(k:b<c):a<c:=by
 obtain d|d|d:=BO a b
 .exact Ca d k
 .rw[d];exact k
 .exact absurd d h
def Ep{a b c:List Int}(h:a<b)(k:¬ c<b):a<c:=by
 obtain d|d|d:=BO b c
 .exact Ca h d
 .rw[<- d];exact h
 .exact absurd d k
theorem Zs(d:List α)(y : α):gS key up nw d y≠[]:=by
 match d with
 | []=>simp[gS]
 | [z]=>simp only[gS];split<;>simp
 | z::w::r=>simp[gS]
theorem D0(z : α){r:List α}(y : α)(h:r≠[]):gS key up nw (z::r) y=z::gS key up nw r y:=by
 match r with
 | []=>exact absurd rfl h
 | w::r=>rfl
theorem Lu(o:List α){r:List α}(y : α)(h:r≠[]):gS key up nw (o++r) y=o++gS key up nw r y:=by
 induction o with
 | nil=>rfl
 | cons z o d=>rw[xX,D0 z y (by simp[h]),d];rfl
theorem TI(o:List α):∀ (l:List α) {r:List α},r≠[]->l.foldl (gS key up nw) (o++r)=o++l.foldl (gS key up nw) r
 | [],r,_=>rfl
 | y::l,r,h=>by simp only[C8];rw[Lu o y h];exact TI o l (Zs r y)
include uv rY in
theorem Lv(d:List α)(y : α):∃ o z,gS key up nw d y=o++[z]/\key z=key y:=by
 match d with
 | []=>exact⟨[],nw y,rfl,rY y⟩
 | [z] =>
  simp only[gS];split
  .rename_i h;exact⟨[],up z y,rfl,by rw[uv,h]⟩
  .exact⟨[z],nw y,rfl,rY y⟩
 | z::w::r =>
  obtain⟨o,u,f,i⟩:=Lv (w::r) y;exact⟨z::o,u,by rw[D0 z y (by simp),f];rfl,i⟩
def CI{o:List α}{z y : α}(h:key z≠key y):gS key up nw (o++[z]) y=o++[z,nw y]:=by rw[Lu o y (by simp)];simp[gS,h]
def FF{o:List α}{z y : α}(h:key z=key y):gS key up nw (o++[z]) y=o++[up z y]:=by rw[Lu o y (by simp)];simp[gS,h]
theorem TJ{o:List α}{z : α}{B:List α}(h:∀ b∈B,key z≠key b):B.foldl (gS key up nw) (o++[z])=o++[z]++eU key up nw B:=by
 cases B with
 | nil=>simp[eU]
 | cons b B =>
  simp only[C8,eU];rw[CI (h b (by simp))];have:o++[z,nw b]=(o++[z])++[nw b]:=by simp
  rw[this,TI (o++[z]) B (by simp)];rfl
def jQ(key : α -> List Int)(l:List α):Prop:=l.Pairwise λa b=>¬ key b<key a
def eH(key : α -> List Int)(l:List α):Prop:=l.Pairwise λa b=>key a<key b
def Lt(l:List α)(y : α):eU key up nw (l++[y])=gS key up nw (eU key up nw l) y:=by simp[eU,yr3]
include uv rY in
theorem Ez:∀ (n:Nat) (l:List α),l.length=n->jQ key l->eH key (eU key up nw l)/\(∀ z∈eU key up nw l,∃ y∈l,key z=key y)/\(l=[]\/∃ o z o' y,eU key up nw l=o++[z]/\l=o'++[y]/\key z=key y)
 | 0,l,x,_=>by
  have:l=[]:=q9 x;subst this;exact⟨by simp[eU,eH],by simp[eU],.inl rfl⟩
 | n+1,l,x,I=>by
  obtain⟨f,y,rfl⟩:∃ f y,l=f++[y]:=⟨l.dropLast,l.getLast (by intro h;simp[h]at x),(List.dropLast_concat_getLast _).symm⟩;have C:f.length=n:=by simpa using x
  have E:jQ key f:=(tY.1 I).1;have D:∀ a∈f,¬ key y<key a:=λa k=>(tY.1 I).2.2 a k y (by simp);obtain⟨J,F,L⟩:=Ez n f C E;rw[Lt];obtain⟨o,u,O,Q⟩:=Lv uv rY (eU key up nw f) y;refine⟨?_,?_,.inr ⟨o,u,f,y,O,rfl,Q⟩⟩
  .obtain rfl|⟨R,z,o',M,j,G,H⟩:=L
   .simp[eU,gS,eH]
   .rw[j]at J ⊢;have g:=tY.1 J;by_cases i:key z=key y
    .rw[FF i];refine tY.2 ⟨g.1,by simp,λa k b p=>?_⟩;simp only[iT]at p;subst p;rw[uv];exact g.2.2 a k z (by simp)
    .rw[CI i];have r:key z<key y:=by
      obtain h|h|h:=BO (key z) (key y)
      .exact h
      .exact absurd h i
      .rw[H]at h;exact absurd h (D M (by rw[G];simp))
     refine tY.2 ⟨g.1,by simp[rY,r],λa k b p=>?_⟩;have m:=g.2.2 a k z (by simp);simp only[cI,sF,or_false]at p;obtain rfl|rfl:=p
     .exact m
     .rw[rY];exact Ca m r
  .intro z d;obtain rfl|⟨R,S,o',M,j,G,H⟩:=L
   .simp[eU,gS]at d;subst d;exact⟨y,by simp,rY y⟩
   .rw[j]at d;by_cases i:key S=key y
    .rw[FF i]at d;obtain h|h:=dN.1 d
     .obtain⟨q,s,t⟩:=F z (by rw[j];simp[h]);exact⟨q,by simp[s],t⟩
     .simp at h;subst h;exact⟨y,by simp,by rw[uv,i]⟩
    .rw[CI i]at d;simp only[dN,cI,sF,or_false]at d;obtain h|rfl|rfl:=d
     .obtain⟨q,s,t⟩:=F z (by rw[j];simp[h]);exact⟨q,by simp[s],t⟩
     .obtain⟨q,s,t⟩:=F z (by rw[j];simp);exact⟨q,by simp[s],t⟩
     .exact⟨y,by simp,rY y⟩
include rY in
theorem LI{x : α}{B:List α}(j:∀ b∈B,key x<key b):∀ (A:List α),eH key A->(∀ a∈A,¬ key x<key a)->eX key up nw (A++B) x=gS key up nw A x++B
 | [],_,_=>by
  cases B with
  | nil=>rfl
  | cons b B =>
   have h:=j b (by simp);have o:¬ key b<key x:=List.lt_asymm h;have i:key b≠key x:=λe=>by rw[e]at h;exact pU _ h
   simp[eX,gS,o,i]
 | [z],m,d=>by
  obtain h|h|h:=BO (key z) (key x)
  .have k:key z≠key x:=λe=>by rw[e]at h;exact pU _ h
   have:=LI j [] (by simp[eH]) (by simp);simp only[uP,gS]at this;simp[eX,gS,h,k,this]
  .have i:¬ key x<key x:=pU _;simp[eX,gS,h,i]
  .exact absurd h (d z (by simp))
 | z::w::r,m,d=>by have f:=mS.1 m;have l:key z<key x:=Ep (f.1 w (by simp)) (d w (by simp));have n:=LI j (w::r) f.2 (λa p=>d a (by simp[p]));rw[D0 z x (by simp)];simp only[xX,eX,l,cH]at n ⊢;rw[<- n]
theorem My(x : α):∀ (s:List α),jQ key s->∃ A B,s=A++B/\eJ key s x=A++x::B/\(∀ a∈A,¬ key x<key a)/\(∀ b∈B,key x<key b)
 | [],_=>⟨[],[],rfl,rfl,by simp,by simp⟩
 | z::r,n=>by
  have d:=mS.1 n;by_cases h:key x<key z
  .refine⟨[],z::r,rfl,by simp[eJ,h],by simp,λb i=>?_⟩;obtain rfl|i:=cI.1 i
   .exact h
   .exact Ep h (d.1 b i)
  .obtain⟨A,B,j,k,l,m⟩:=My x r d.2;exact⟨z::A,B,by rw[j];rfl,by simp[eJ,h,k],λa f=>by
    obtain rfl|f:=cI.1 f
    .exact h
    .exact l a f,m⟩
theorem Ri{x : α}{s:List α}(hs:jQ key s):jQ key (eJ key s x):=by
 obtain⟨A,B,h,i,j,k⟩:=My x s hs;rw[i];rw[h]at hs;have g:=tY.1 hs;refine tY.2 ⟨g.1,mS.2 ⟨λb d=>List.lt_asymm (k b d),g.2.1⟩,λa f b d=>?_⟩;obtain rfl|d:=cI.1 d
 .exact j a f
 .exact g.2.2 a f b d
include uv rY in
theorem ybb{x : α}{s:List α}(hs:jQ key s):eU key up nw (eJ key s x)=eX key up nw (eU key up nw s) x:=by
 obtain⟨A,B,G,H,n,j⟩:=My x s hs;subst G;have g:=tY.1 hs;obtain⟨p,r,t⟩:=Ez uv rY A.length A rfl g.1;obtain⟨J,C,L⟩:=Ez uv rY B.length B rfl g.2.1;have k:∀ b∈eU key up nw B,key x<key b:=λb d=>by obtain⟨y,l,m⟩:=C b d;rw[m];exact j y l
 have D:eU key up nw (A++B)=eU key up nw A++eU key up nw B:=by
  obtain rfl|⟨o,z,M,y,h,i,F⟩:=t
  .simp[eU]
  .have:eU key up nw (A++B)=B.foldl (gS key up nw) (eU key up nw A):=by simp[eU,yr3]
   rw[this,h];refine TJ λb d=>?_;have f:key z<key b:=by rw[F];exact PA (n y (by rw[i];simp)) (j b d)
   intro e;rw[e]at f;exact pU _ f
 have E:eU key up nw (A++x::B)=gS key up nw (eU key up nw A) x++eU key up nw B:=by
  have:eU key up nw (A++x::B)=B.foldl (gS key up nw) (gS key up nw (eU key up nw A) x):=by simp[eU,yr3]
  rw[this];obtain⟨o,u,h,i⟩:=Lv uv rY (eU key up nw A) x;rw[h];refine TJ λb d=>?_;intro e;have:=j b d;rw[<- i,e]at this;exact pU _ this
 rw[H,D,E];exact(LI rY k _ p (λa I=>by
  obtain⟨y,l,m⟩:=r a I;rw[m];exact n y l)).symm
include uv rY in
theorem KA(l:List α):eU key up nw (bW key l)=nZ key up nw l/\jQ key (bW key l):=by
 have d:∀ (l s:List α),jQ key s->eU key up nw (l.foldl (eJ key) s)=l.foldl (eX key up nw) (eU key up nw s)/\jQ key (l.foldl (eJ key) s):=by
  intro l
  induction l with
  | nil=>intro s f;exact⟨rfl,f⟩
  | cons x l h =>
   intro s f;simp only[C8];rw[<- ybb uv rY f];exact h _ (Ri f)
 exact d l [] (by simp[jQ])
end
def eW:List Int->List Int->Int
 | x::d,y::f=>if x<y then -1 else if y<x then 1 else eW d f
 | _,_=>0
theorem CG:∀ {a b:List Int},a.length=b.length->(eW a b<0 ↔ a<b)
 | [],[],_=>by simp[eW]
 | x::j,y::k,h=>by
  have i:=CG (a:=j) (b:=k) (by simpa using h);simp only[eW,List.cons_lt_cons_iff];by_cases d:x<y
  .simp[d]
  .by_cases f:y<x
   .simp[d,f];omega
   .have:x=y:=by omega
    subst this;simp[i]
theorem CF:∀ {a b:List Int},a.length=b.length->(eW a b=0 ↔ a=b)
 | [],[],_=>by simp[eW]
 | x::j,y::k,h=>by
  have i:=CF (a:=j) (b:=k) (by simpa using h);simp only[eW,List.cons.injEq];by_cases d:x<y
  .simp[d];omega
  .by_cases f:y<x
   .simp[d,f];omega
   .have:x=y:=by omega
    subst this;simp[i]
def eP(x y:Int):Int:=if x<y then -1 else if y<x then 1 else 0
structure aV where
 f:Int
 l:Int
 t:Int
 w:GW
structure aE where
 f:Int
 i:Int
 o:Int
 t:Int
 w:GW
def GW.cl(w:GW):List PV:=[.bool w.q.neg,.sl (ens w.q.num),.sl (ens w.q.den),g6 w.cost,.bool w.inf,.int .u64 w.set.toNat,.sl (ens w.aR),.sl (ens w.parts)]
instance:Enc aV:=⟨λx=>.agg ([g6 x.f,g6 x.l,g6 x.t]++x.w.cl),11,by decide,λ_=>rfl⟩
instance:Enc aE:=⟨λx=>.agg ([g6 x.f,g6 x.i,g6 x.o,g6 x.t]++x.w.cl),12,by decide,λ_=>rfl⟩
@[simp] theorem ynh(x:aV):enc x=.agg [g6 x.f,g6 x.l,g6 x.t,.bool x.w.q.neg,.sl (ens x.w.q.num),.sl (ens x.w.q.den),g6 x.w.cost,.bool x.w.inf,.int .u64 x.w.set.toNat,.sl (ens x.w.aR),.sl (ens x.w.parts)]:=rfl
@[simp] theorem yk5(x:aE):enc x=.agg [g6 x.f,g6 x.i,g6 x.o,g6 x.t,.bool x.w.q.neg,.sl (ens x.w.q.num),.sl (ens x.w.q.den),g6 x.w.cost,.bool x.w.inf,.int .u64 x.w.set.toNat,.sl (ens x.w.aR),.sl (ens x.w.parts)]:=rfl
@[simp] theorem yjz:Enc.sz aV=11:=rfl
@[simp] theorem yhm:Enc.sz aE=12:=rfl
structure aU where
 ring:aC
 sy:Int
 st:Int
 aM:List GW
 fin:List GW
 aD:List aV
structure eg where
 ring:aC
 i:Int
 o:Int
 st:Int
 aM:List GW
 fin:List GW
 aD:List aE
instance:Enc aU:=⟨λx=>.agg [g6 x.ring.kind,.sl (ens x.ring.parts),g6 x.sy,g6 x.st,.sl (ens x.aM),.sl (ens x.fin),.sl (ens x.aD)],7,by decide,λ_=>rfl⟩
instance:Enc eg:=⟨λx=>.agg [g6 x.ring.kind,.sl (ens x.ring.parts),g6 x.i,g6 x.o,g6 x.st,.sl (ens x.aM),.sl (ens x.fin),.sl (ens x.aD)],8,by decide,λ_=>rfl⟩
@[simp] theorem yla(x:aU):enc x=.agg [g6 x.ring.kind,.sl (ens x.ring.parts),g6 x.sy,g6 x.st,.sl (ens x.aM),.sl (ens x.fin),.sl (ens x.aD)]:=rfl
@[simp] theorem Xh(x:eg):enc x=.agg [g6 x.ring.kind,.sl (ens x.ring.parts),g6 x.i,g6 x.o,g6 x.st,.sl (ens x.aM),.sl (ens x.fin),.sl (ens x.aD)]:=rfl
@[simp] theorem yhs:Enc.sz aU=7:=rfl
@[simp] theorem ygr:Enc.sz eg=8:=rfl
def aV.key(x:aV):List Int:=[x.f,x.l,x.t]
def aE.key(x:aE):List Int:=[x.f,x.i,x.o,x.t]
def Wa(l:List GW)(f:FuncId)(d:List PV)(p:GW->Bool)(u:l.length<=4611686018427387904)(o:∀ x∈l,Sp P f (enc x::d) (.pure (.bool (p x)))) :
  zS 181 [.sl (ens l),.fn f d] (g6 (gN p l)):=by
 refine Sp.vz c.pa λ_=>?_;simp[g.pa]
 refine b6 (S:=λk:Nat=>aB [(0,hW l),(1,.p (.fn f d)),(7,f8 l.length),(8,f8 k)] []) (I:=λk=>k<=l.length/\∀ x∈l.take k,p x=false) (m:=λk=>l.length - k) 0
  (aA.to [0,1,7,8] [] (by simp)) ⟨by omega,by simp⟩ ?_
 rintro k ⟨t,j⟩ R r s h;have n:=aZ k;simp[g.wz,aB];refine⟨λi=>?_,λi=>h _ _ ?_⟩
 .refine bK i ?_
  try simp
  refine bA (o l[k] (bU i)) (kX (by simp) (yn _ _)) ?_;obtain h3|h3:=iK (p l[k])
  .simp[h3];refine s _ ?_;simp[FD i j h3]
  .simp[h3,n];refine r (k+1) _ (aA.to [0,1,7,8] [] (by simp)) ⟨by omega,λx h=>?_⟩ (by omega);rw[ed i]at h;obtain h|h:=dN.1 h
   .exact j x h
   .simp at h;rw[h];exact h3
 .have:k=l.length:=by omega
  subst this;simp[Gj (p:=p) (l:=l) (by simpa using j)]
def RK(l:List GW)(f:FuncId)(d:List PV)(p:GW->Bool)(i:l.length<=4611686018427387904)(h:∀ x∈l,Sp P f (enc x::d) (.pure (.bool (p x)))) :
  zS 142 [.sl (ens l),.fn f d] (.bool (l.any p)):=by
 refine Sp.vz c.j6 λ_=>?_;simp[g.j6];refine bA (Wa l f d p i h) rfl ?_;simp[MO]
def Rx(l:List aV)(f:FuncId)(d:List PV)(p:aV->Bool)(u:l.length<=4611686018427387904)(o:∀ x∈l,Sp P f (enc x::d) (.pure (.bool (p x)))) :
  zS 182 [.sl (ens l),.fn f d] (g6 (gN p l)):=by
 refine Sp.vz c.kn λ_=>?_;simp[g.kn]
 refine b6 (S:=λk:Nat=>aB [(0,hW l),(1,.p (.fn f d)),(7,f8 l.length),(8,f8 k)] []) (I:=λk=>k<=l.length/\∀ x∈l.take k,p x=false) (m:=λk=>l.length - k) 0
  (aA.to [0,1,7,8] [] (by simp)) ⟨by omega,by simp⟩ ?_
 rintro k ⟨t,j⟩ R r s h;have n:=aZ k;simp[g.w5,aB];refine⟨λi=>?_,λi=>h _ _ ?_⟩
 .refine bK i ?_
  try simp
  refine bA (o l[k] (bU i)) (kX (by simp) (yn _ _)) ?_;obtain h3|h3:=iK (p l[k])
  .simp[h3];refine s _ ?_;simp[FD i j h3]
  .simp[h3,n];refine r (k+1) _ (aA.to [0,1,7,8] [] (by simp)) ⟨by omega,λx h=>?_⟩ (by omega);rw[ed i]at h;obtain h|h:=dN.1 h
   .exact j x h
   .simp at h;rw[h];exact h3
 .have:k=l.length:=by omega
  subst this;simp[Gj (p:=p) (l:=l) (by simpa using j)]
def Ve(l:List aV)(f:FuncId)(d:List PV)(p:aV->Bool)(i:l.length<=4611686018427387904)(h:∀ x∈l,Sp P f (enc x::d) (.pure (.bool (p x)))) :
  zS 144 [.sl (ens l),.fn f d] (.bool (l.any p)):=by
 refine Sp.vz c.om λ_=>?_;simp[g.om];refine bA (Rx l f d p i h) rfl ?_;simp[MO]
def VR(l:List aE)(f:FuncId)(d:List PV)(p:aE->Bool)(u:l.length<=4611686018427387904)(o:∀ x∈l,Sp P f (enc x::d) (.pure (.bool (p x)))) :
  zS 127 [.sl (ens l),.fn f d] (g6 (gN p l)):=by
 refine Sp.vz c.oe λ_=>?_;simp[g.oe]
 refine b6 (S:=λk:Nat=>aB [(0,hW l),(1,.p (.fn f d)),(7,f8 l.length),(8,f8 k)] []) (I:=λk=>k<=l.length/\∀ x∈l.take k,p x=false) (m:=λk=>l.length - k) 0
  (aA.to [0,1,7,8] [] (by simp)) ⟨by omega,by simp⟩ ?_
 rintro k ⟨t,j⟩ R r s h;have n:=aZ k;simp[g.wd,aB];refine⟨λi=>?_,λi=>h _ _ ?_⟩
 .refine bK i ?_
  try simp
  refine bA (o l[k] (bU i)) (kX (by simp) (yn _ _)) ?_;obtain h3|h3:=iK (p l[k])
  .simp[h3];refine s _ ?_;simp[FD i j h3]
  .simp[h3,n];refine r (k+1) _ (aA.to [0,1,7,8] [] (by simp)) ⟨by omega,λx h=>?_⟩ (by omega);rw[ed i]at h;obtain h|h:=dN.1 h
   .exact j x h
   .simp at h;rw[h];exact h3
 .have:k=l.length:=by omega
  subst this;simp[Gj (p:=p) (l:=l) (by simpa using j)]
def Wd(l m:List aF)(f:FuncId)(J:l.length<=4611686018427387904)(D:∀ x∈l,∀ y∈m,Sp P f [enc x,enc y] (.pure (.bool (decide (x=y))))) :
  zS 170 [.sl (ens l),.sl (ens m),.fn f []] (.bool (decide (l=m))):=by
 refine Sp.vz c.o6 λ_=>?_;simp[g.o6];refine⟨λh=>?_,λh=>λC=>h (by rw[C])⟩;have i:l.length=m.length:=by omega
 refine b6 (S:=λk:Nat=>aB [(1,hW m),(2,.p (.fn f [])),(15,hW l),(16,f8 l.length),(17,f8 k)] []) (I:=λk=>k<=l.length/\l.take k=m.take k) (m:=λk=>l.length - k) 0
  (aA.to [1,2,15,16,17] [] (by simp)) ⟨by omega,by simp⟩ ?_
 rintro k ⟨H,r⟩ R E F G;have s:=aZ k;simp[g.wo,aB];refine⟨λn=>?_,λn=>G _ _ ?_⟩
 .have d:k<m.length:=by omega
  have o:l[k]≠m[k]->l≠m:=λh t=>by subst t;exact h rfl
  refine bK n ?_
  try simp
  refine bK d ?_
  try simp
  refine aW (D l[k] (bU n) m[k] (bU d)) ?_;by_cases j:l[k]=m[k]
  .simp[j,s];exact E (k+1) _ (aA.to [1,2,15,16,17] [] (by simp)) ⟨by omega,by rw[ed n,ed d,r,j]⟩ (by omega)
  .have z:l≠m:=o j;simp[j];exact F _ (by simp[z])
 .have u:l=m:=by rw[<- List.take_length (l:=l),<- List.take_length (l:=m),<- i,show l.length=k by omega];exact r
  simp[u]
def V2(l m:List GW)(f:FuncId)(J:l.length<=4611686018427387904)(D:∀ x∈l,∀ y∈m,Sp P f [enc x,enc y] (.pure (.bool (decide (x=y))))) :
  zS 171 [.sl (ens l),.sl (ens m),.fn f []] (.bool (decide (l=m))):=by
 refine Sp.vz c.o7 λ_=>?_;simp[g.o7];refine⟨λh=>?_,λh=>λC=>h (by rw[C])⟩;have i:l.length=m.length:=by omega
 refine b6 (S:=λk:Nat=>aB [(1,hW m),(2,.p (.fn f [])),(15,hW l),(16,f8 l.length),(17,f8 k)] []) (I:=λk=>k<=l.length/\l.take k=m.take k) (m:=λk=>l.length - k) 0
  (aA.to [1,2,15,16,17] [] (by simp)) ⟨by omega,by simp⟩ ?_
 rintro k ⟨H,r⟩ R E F G;have s:=aZ k;simp[g.wq,aB];refine⟨λn=>?_,λn=>G _ _ ?_⟩
 .have d:k<m.length:=by omega
  have o:l[k]≠m[k]->l≠m:=λh t=>by subst t;exact h rfl
  refine bK n ?_
  try simp
  refine bK d ?_
  try simp
  refine aW (D l[k] (bU n) m[k] (bU d)) ?_;by_cases j:l[k]=m[k]
  .simp[j,s];exact E (k+1) _ (aA.to [1,2,15,16,17] [] (by simp)) ⟨by omega,by rw[ed n,ed d,r,j]⟩ (by omega)
  .have z:l≠m:=o j;simp[j];exact F _ (by simp[z])
 .have u:l=m:=by rw[<- List.take_length (l:=l),<- List.take_length (l:=m),<- i,show l.length=k by omega];exact r
  simp[u]
theorem RG(l:List aV)(d:l.length<=2147483648):Sp P 254 [.sl (ens l)] (.fresh 11 (ens l)):=by
 cases l with
 | nil =>
  refine Sp.oO ?_ ?_
  .refine Sp.vz c.dg λ_=>?_;simp[g.dg]
  .refine Sp.vz c.dg λ_=>?_;simp[g.dg,eL]
 | cons x l =>
  refine Sp.vz c.dg λ_=>?_;simp at d;simp[g.dg,eL,d]
theorem VY(l:List aE)(d:l.length<=2147483648):Sp P 71 [.sl (ens l)] (.fresh 12 (ens l)):=by
 cases l with
 | nil =>
  refine Sp.oO ?_ ?_
  .refine Sp.vz c.cr λ_=>?_;simp[g.cr]
  .refine Sp.vz c.cr λ_=>?_;simp[g.cr,eL]
 | cons x l =>
  refine Sp.vz c.cr λ_=>?_;simp at d;simp[g.cr,eL,d]
def To(x:Int):zS 160 [g6 x] (.bool false):=by refine Sp.vz c.ow λ_=>?_;simp[g.ow]
def vZ(x y:Int):zS 120 [g6 x,g6 y] (g6 (eP x y)):=by refine Sp.vz c.dw λ_=>?_;simp[g.dw];refine bA (To x) rfl ?_;simp;refine bA (To y) rfl ?_;simp[eP];refine⟨λ_ _=>by split<;>omega,λ_=>⟨λ_=>by(repeat' split)<;>omega,λ_=>by(repeat' split)<;>omega⟩⟩
def zI:List Int->Int
 | []=>0
 | x::r=>if x=0 then zI r else x
theorem U5{l:List Int}:∀ {k:Nat},(∀ x∈l.take k,x=0)->zI l=zI (l.drop k):=by
 intro k
 induction l generalizing k with
 | nil=>simp
 | cons x l f =>
  cases k with
  | zero=>simp
  | succ k =>
   intro h;have:x=0:=h x (by simp);simp only[zI,this,cH,NF];exact f λy d=>h y (by simp[d])
def K9(l:List Int)(u:l.length<=4611686018427387904):zS 119 [.sl (ens l)] (g6 (zI l)):=by
 refine Sp.vz c.gm λ_=>?_;simp[g.gm]
 refine b6 (S:=λk:Nat=>aB [(3,f8 0),(6,hW l),(7,f8 l.length),(8,f8 k)] []) (I:=λk=>k<=l.length/\∀ x∈l.take k,x=0) (m:=λk=>l.length - k) 0
  (aA.to [3,6,7,8] [] (by simp)) ⟨by omega,by simp⟩ ?_
 rintro k ⟨t,n⟩ R r s d;have o:=aZ k;have f:=U5 n;simp[g.wa,aB];refine⟨λh=>?_,λh=>d _ _ ?_⟩
 .have j:l.drop k=l[k]::l.drop (k+1):=vJ h;rw[j]at f;refine bK h ?_;simp[o];refine⟨λi=>?_,λi=>?_⟩
  .refine r (k+1) _ (aA.to [3,6,7,8] [] (by simp)) ⟨by omega,λx d=>?_⟩ (by omega);rw[ed h]at d;obtain d|d:=dN.1 d
   .exact n x d
   .simp at d;rw[d];exact i
  .refine s _ ?_;simp[zI,i]at f;simp[f]
 .have:k=l.length:=by omega
  subst this;simp[zI]at f;simp[f]
def Qv(l m:List UInt32)(F:l.length<=4611686018427387904):zS 252 [.sl (ens l),.sl (ens m)] (.bool (decide (l=m))):=by
 refine Sp.vz c.pj λ_=>?_;simp[g.pj];refine⟨λh=>?_,λh=>λy=>h (by rw[y])⟩;have f:l.length=m.length:=by omega
 refine b6 (S:=λk:Nat=>aB [(0,hW l),(1,hW m),(12,f8 l.length),(13,f8 k)] []) (I:=λk=>k<=l.length/\l.take k=m.take k) (m:=λk=>l.length - k) 0
  (aA.to [0,1,12,13] [] (by simp)) ⟨by omega,by simp⟩ ?_
 rintro k ⟨E,n⟩ R z C D;have r:=aZ k;simp[g.xc,aB];refine⟨λj=>?_,λj=>D _ _ ?_⟩
 .have d:k<m.length:=by omega
  have i:l[k]≠m[k]->l≠m:=λh s=>by subst s;exact h rfl
  refine bK j ?_;refine bK d ?_;simp[r];refine⟨λo=>?_,λo=>?_⟩
  .have u:l[k]=m[k]:=UInt32.toNat_inj.1 (by omega);exact z (k+1) _ (aA.to [0,1,12,13] [] (by simp)) ⟨by omega,by rw[ed j,ed d,n,u]⟩ (by omega)
  .have x:l≠m:=i λh=>o (by rw[h]);exact C _ (by simp[x])
 .have t:l=m:=by rw[<- List.take_length (l:=l),<- List.take_length (l:=m),<- f,show l.length=k by omega];exact n
  simp[t]
def QJ(x y:aT)(h:x.sm 1073741824):zS 169 [enc x,enc y] (.bool (decide (x=y))):=by
 refine Sp.vz c.ke λ_=>?_;simp[g.ke];have key:∀ (x y:aT),x=y ↔ x.neg=y.neg/\x.num=y.num/\x.den=y.den:=by intro x y;cases x;cases y;simp
 refine⟨λd=>?_,λd=>?_⟩
 .refine bA (Qv x.num y.num (by have:=h.1;omega)) rfl ?_;by_cases f:x.num=y.num
  .simp[f];refine bA (Qv x.den y.den (by have:=h.2;omega)) rfl ?_;simp[key x y,d,f]
  .simp[key x y,f]
 .simp[key x y,d]
def MG(e:Ex)(h:(-1000<e.a/\e.a<1000)/\(-1000<e.b/\e.b<1000) /\ -1000<e.c/\e.c<1000):zS 340 [enc e] (g6 (e.a+e.b+e.c)):=by have j:IntKind.i64.wrap e.a=e.a:=cT;have k:IntKind.i64.wrap (e.a+e.b)=e.a+e.b:=cT;have l:IntKind.i64.wrap (e.a+e.b+e.c)=e.a+e.b+e.c:=cT;refine Sp.vz c.lx λ_=>?_;simp[g.lx];refine jT λR d i f=>?_;simp[g.q8,j];refine d _ ?_;clear d i f;refine jT λR d i f=>?_;simp[g.q8,k];refine d _ ?_;clear d i f;refine jT λR d i f=>?_;simp[g.q8,l];refine d _ ?_;clear d i f;refine jT λR d i f=>?_;simp[g.q8];refine f _ _ ?_;simp
def Qa(d e:Ex):zS 290 [enc d,enc e] (g6 (e.cmp d)):=by
 refine Sp.vz c.lm λ_=>?_;simp[g.lm];refine jT λR f i j=>?_;simp[g.q7];refine bA (vZ e.a d.a) rfl ?_;simp;refine⟨λh=>?_,λh=>?_⟩;rotate_left
 .refine i _ ?_;simp;unfold eP at h ⊢;unfold Ex.cmp
  (repeat' split)<;>first|rfl|omega|simp_all
 refine f _ ?_;clear f i j;refine jT λR f i j=>?_;simp[g.q7];refine bA (vZ e.b d.b) rfl ?_;simp;refine⟨λk=>?_,λk=>?_⟩;rotate_left
 .refine i _ ?_;simp;unfold eP at h k ⊢;unfold Ex.cmp
  (repeat' split)<;>first|rfl|omega|simp_all
 refine f _ ?_;clear f i j;refine jT λR f i j=>?_;simp[g.q7];refine bA (vZ e.c d.c) rfl ?_;simp;refine⟨λl=>?_,λl=>?_⟩;rotate_left
 .refine i _ ?_;simp;unfold eP at h k l ⊢;unfold Ex.cmp
  (repeat' split)<;>first|rfl|omega|simp_all
 refine f _ ?_;clear f i j;refine jT λR f i j=>?_;simp[g.q7];refine j _ _ ?_;simp;unfold eP at h k l;unfold Ex.cmp
 (repeat' split)<;>first|rfl|omega|simp_all
def yay(m:aF)(n:m.bE.sm 1048576):zS 289 [enc m] (.bool m.ok):=by
 have d:(¬ (0<=m.e.a/\m.e.a<=5)\/¬ (0<=m.e.b/\m.e.b<=5)\/¬ (0<=m.e.c/\m.e.c<=5))->m.ok=false:=by
  intro h;have:m.e.ok=false:=by simp only[Ex.ok,decide_eq_false_iff_not];omega
  simp[aF.ok,this]
 refine Sp.vz c.pt λ_=>?_;simp[g.pt];refine jT λR i f j=>?_;by_cases t:0<=m.e.a;rotate_left
 .simp[g.fi,show m.e.a<0 by omega];refine f _ ?_;simp[d (by omega)]
 by_cases o:m.e.a<=5;rotate_left
 .simp[g.fi,show ¬ m.e.a<0 by omega,show 5<m.e.a by omega];refine f _ ?_;simp[d (by omega)]
 simp[g.fi,show ¬ m.e.a<0 by omega,show ¬ 5<m.e.a by omega];refine i _ ?_;clear i f j;refine jT λR i f j=>?_;by_cases u:0<=m.e.b;rotate_left
 .simp[g.fi,show m.e.b<0 by omega];refine f _ ?_;simp[d (by omega)]
 by_cases p:m.e.b<=5;rotate_left
 .simp[g.fi,show ¬ m.e.b<0 by omega,show 5<m.e.b by omega];refine f _ ?_;simp[d (by omega)]
 simp[g.fi,show ¬ m.e.b<0 by omega,show ¬ 5<m.e.b by omega];refine i _ ?_;clear i f j;refine jT λR i f j=>?_;by_cases x:0<=m.e.c;rotate_left
 .simp[g.fi,show m.e.c<0 by omega];refine f _ ?_;simp[d (by omega)]
 by_cases r:m.e.c<=5;rotate_left
 .simp[g.fi,show ¬ m.e.c<0 by omega,show 5<m.e.c by omega];refine f _ ?_;simp[d (by omega)]
 simp[g.fi,show ¬ m.e.c<0 by omega,show ¬ 5<m.e.c by omega];refine i _ ?_;clear i f j;refine jT λR i f j=>?_;simp[g.fi];refine j _ _ ?_;clear i f j;simp;refine bA (MG m.e (by omega)) rfl ?_;simp;refine⟨λs=>?_,λs=>?_⟩
 .have k:m.e.ok=true:=by simp only[Ex.ok,decide_eq_true_eq];omega
  refine bA (Mp m.bE (n.mono (by omega))) rfl ?_;obtain l|l:=iK m.bE.valid
  .simp[l];refine bA (Iq m.bE (n.mono (by omega))) rfl ?_;simp[aF.ok,k,l,Et]
  .simp[l,aF.ok]
 .have k:m.e.ok=false:=by simp only[Ex.ok,decide_eq_false_iff_not];omega
  simp[aF.ok,k]
def Qe(p:List aF)(hp:fP p 1048576)(F:p.length<=1073741824):zS 235 [.sl (ens p)] (.bool (decide (bS p))):=by
 refine Sp.vz c.k9 λ_=>?_;simp[g.k9]
 refine b6 (S:=λk:Nat=>aB [(0,hW p),(5,hW p),(6,f8 p.length),(7,f8 k)] []) (I:=λk=>k<=p.length/\∀ i,(h:i<p.length)->i<k->p[i].ok=true/\(0<i->p[i].e.cmp (p[i - 1]'(by omega)).e<0)) (m:=λk=>p.length - k) 0
  (aA.to [0,5,6,7] [] (by simp)) ⟨by omega,λi h j=>by omega⟩ ?_
 rintro k ⟨D,o⟩ R s t z;have x:=aZ k;simp[g.xa,aB];refine⟨λf=>?_,λf=>z _ _ ?_⟩
 .have d:¬ (p[k].ok=true/\(0<k->p[k].e.cmp (p[k - 1]'(by omega)).e<0))->decide (bS p)=false:=λh=>decide_eq_false λy=>h (y k f);refine bK f ?_
  try simp
  refine aW (yay p[k] (hp _ (bU f))) ?_;have step:p[k].ok=true->(0<k->p[k].e.cmp (p[k - 1]'(by omega)).e<0)->∀ i,(h:i<p.length)->i<k+1->p[i].ok=true/\(0<i->p[i].e.cmp (p[i - 1]'(by omega)).e<0):=by
   intro a b i h E;by_cases l:i<k
   .exact o i h l
   .have:i=k:=by omega
    subst this;exact⟨a,b⟩
  obtain h3|h3:=iK p[k].ok;rotate_left
  .simp[h3];refine t _ ?_;simp;simpa using d (by simp[h3])
  by_cases j:0<k;rotate_left
  .have:k=0:=by omega
   subst this;simp[h3];refine s 1 _ (aA.to [0,5,6,7] [] (by simp)) ⟨by omega,step h3 (by omega)⟩ (by omega)
  have u:IntKind.i64.wrap ((k:Int) - 1)=((k - 1:Nat):Int):=by rw[cL];omega
  have C:0<(k:Int):=by omega
  have n:k - 1<p.length:=by omega
  simp[h3,u,j];refine bK n ?_
  try simp
  refine aW (Qa p[k - 1].e p[k].e) ?_;by_cases r:p[k].e.cmp p[k - 1].e<0
  .simp[show ¬ (0<=p[k].e.cmp p[k - 1].e) by omega,x];refine s (k+1) _ (aA.to [0,5,6,7] [] (by simp)) ⟨by omega,step h3 (λ_=>r)⟩ (by omega)
  .simp[show 0<=p[k].e.cmp p[k - 1].e by omega];refine t _ ?_;simp;simpa using d (λh=>r (h.2 j))
 .have:bS p:=λi h=>o i h (by omega);simp[this]
def ID(p:List aF)(hp:fP p 1048576)(d:p.length<=1073741824):zS 294 [.sl (ens p)] (.sl (ens (pv p))):=by
 refine Sp.vz c.fg λ_=>?_;simp[g.fg];refine bA (Qe p hp d) rfl ?_;by_cases h:bS p
 .simp[h,pv]
 .simp[h,pv]
def dP:aT:=⟨false,[],[]⟩
def Dy:GW:=.mk dP 0 false 0 [] []
def GW.si(k:Int)(w:GW):Prop:=w.parts=[]/\(k≠1->k≠3->w.q=dP)/\(k≠2->w.inf=false/\w.cost=0)/\(k≠4->w.set=0)/\(k≠5->w.aR=[]) /\
 (k=1->w.q.valid=true)/\(k=2->0<=w.cost/\w.cost<=1099511627776/\(w.inf=true->w.cost=0))/\(k=3->w.q.valid=true/\0<=w.q.v/\w.q.v<=1)/\(k=5->bS w.aR)
noncomputable instance (k:Int) (w:GW):Decidable (w.si k):=Classical.propDecidable _
theorem yN{x:UInt64}:x.toNat=0 ↔ x=0:=by rw[<- UInt64.toNat_inj];rfl
def wY{α : Type}{l:List α}:0<l.length ↔ l≠[]:=Dd
def xZ{w:GW}:w.si 1 ↔ w.parts=[]/\w.inf=false/\w.cost=0/\w.set=0/\w.aR=[]/\w.q.valid=true:=by simp[GW.si,and_assoc]
def pY{w:GW}:w.si 2 ↔ w.parts=[]/\w.q=dP/\w.set=0/\w.aR=[]/\0<=w.cost/\w.cost<=1099511627776/\(w.inf=true->w.cost=0):=by simp[GW.si]
def wP{w:GW}:w.si 3 ↔ w.parts=[]/\w.inf=false/\w.cost=0/\w.set=0/\w.aR=[]/\w.q.valid=true/\0<=w.q.v/\w.q.v<=1:=by simp[GW.si,and_assoc]
def Bf{w:GW}:w.si 4 ↔ w.parts=[]/\w.q=dP/\w.inf=false/\w.cost=0/\w.aR=[]:=by simp[GW.si,and_assoc]
def Aq{w:GW}:w.si 5 ↔ w.parts=[]/\w.q=dP/\w.inf=false/\w.cost=0/\w.set=0/\bS w.aR:=by simp[GW.si,and_assoc]
def I6{q:Rat}:0<=kM q ↔ 0<=q:=by rw[<- Rat.num_nonneg];unfold kM;(repeat' split)<;>omega
def D8:(cR 1).sm 1:=⟨nR (by decide),by decide⟩
def XS(w:GW)(l:w.sm 1048576):zS 149 [g6 1,enc w] (.bool (decide (w.si 1))):=by
 refine Sp.vz c.ai λ_=>?_;obtain d|d:=iK w.inf
 .simp[g.ai];refine bA (wF w.q dP (l.q.mono (by omega))) rfl ?_;simp[d];exact⟨λ_ h=>by have:=(xZ.1 h).2;simp[d]at this,λ_ h=>by have:=(xZ.1 h).2;simp[d]at this⟩
 .simp[g.ai];refine bA (wF w.q dP (l.q.mono (by omega))) rfl ?_;simp[d];simp only[xZ,yN,wY,d];refine⟨λf h=>f h.1,λf=>⟨λi=>⟨λj=>⟨λk h=>k h.2.2.2.2.1,λk=>?_⟩,λj h=>j h.2.2.2.1⟩,λi h=>i h.2.2.1⟩⟩;refine bA (IK w.q (l.q.mono (by omega))) rfl ?_;simp[f,i,j,k]
def XT(w:GW)(n:w.sm 1048576):zS 149 [g6 2,enc w] (.bool (decide (w.si 2))):=by
 refine Sp.vz c.ai λ_=>?_;obtain m|m:=iK w.inf
 .simp[g.ai];refine bA (wF w.q dP (n.q.mono (by omega))) rfl ?_;simp[m];simp only[pY,yN,wY,m];refine⟨λd h=>d h.1,λd=>⟨λf=>⟨λi=>⟨λj h=>j h.2.2.2.1,λj=>⟨λk=>⟨λl=>?_,λl h=>?_⟩,λk h=>?_⟩⟩,λi h=>i h.2.2.1⟩,λf h=>f h.2.1⟩⟩
  .simp[d,f,i,j,k,l]
  .have:=h.2.2.2.2.2.1;omega
  .have:=h.2.2.2.2.1;omega
 .simp[g.ai];refine bA (wF w.q dP (n.q.mono (by omega))) rfl ?_;simp[m];simp only[pY,yN,wY,m];refine⟨λd h=>d h.1,λd=>⟨λf=>⟨λi=>⟨λj h=>j h.2.2.2.1,λj=>⟨λk=>⟨λl=>?_,λl h=>?_⟩,λk h=>?_⟩⟩,λi h=>i h.2.2.1⟩,λf h=>f h.2.1⟩⟩
  .simp[d,f,i,j,k,l]
  .have:=h.2.2.2.2.2.1;omega
  .have:=h.2.2.2.2.1;omega
def XU(w:GW)(i:w.sm 1048576):zS 149 [g6 3,enc w] (.bool (decide (w.si 3))):=by
 refine Sp.vz c.ai λ_=>?_;obtain d|d:=iK w.inf
 .simp[g.ai];refine bA (wF w.q dP (i.q.mono (by omega))) rfl ?_;simp[d];exact⟨λ_ h=>by have:=(wP.1 h).2;simp[d]at this,λ_ h=>by have:=(wP.1 h).2;simp[d]at this⟩
 .simp[g.ai];refine bA (wF w.q dP (i.q.mono (by omega))) rfl ?_;simp[d];simp only[wP,yN,wY,d];refine⟨λj h=>j h.1,λj=>⟨λk=>⟨λl=>⟨λm h=>m h.2.2.2.2.1,λm=>?_⟩,λl h=>l h.2.2.2.1⟩,λk h=>k h.2.2.1⟩⟩;refine bA (IK w.q (i.q.mono (by omega))) rfl ?_;obtain o|o:=iK w.q.valid;rotate_left
  .simp[j,k,l,m,o]
  simp[j,k,l,m,o];refine bA (F5 w.q (i.q.mono (by omega))) rfl ?_;simp;refine⟨λr=>?_,λr=>?_⟩
  .have s:Rat.divInt 1 1=1:=rfl;have f:=Cy 1 1 (by omega) (by omega) (by omega);rw[s]at f;refine bA f rfl ?_;simp;refine bA (Tt (cR 1) w.q (D8.mono (by omega)) i.q) rfl ?_;have p:=I6.1 r;simp[kW,p];by_cases n:1<w.q.v
   .simp[n,Rat.not_le.2 n]
   .simp[n,Df.1 n]
  .have p:¬ 0<=w.q.v:=λh=>by have:=I6.2 h;omega
   simp[p]
def XV(w:GW)(l:w.sm 1048576):zS 149 [g6 4,enc w] (.bool (decide (w.si 4))):=by
 refine Sp.vz c.ai λ_=>?_;obtain d|d:=iK w.inf
 .simp[g.ai];refine bA (wF w.q dP (l.q.mono (by omega))) rfl ?_;simp[d];exact⟨λ_ h=>by have:=(Bf.1 h).2;simp[d]at this,λ_ h=>by have:=(Bf.1 h).2;simp[d]at this⟩
 .simp[g.ai];refine bA (wF w.q dP (l.q.mono (by omega))) rfl ?_;simp[d];simp only[Bf,wY,d];refine⟨λf h=>f h.1,λf=>⟨λi=>⟨λj=>⟨λk h=>k h.2.2.2.2,λk=>by simp[f,i,j,k]⟩,λj h=>j h.2.2.2.1⟩,λi h=>i h.2.1⟩⟩
def XW(w:GW)(f:w.sm 1048576):zS 149 [g6 5,enc w] (.bool (decide (w.si 5))):=by
 refine Sp.vz c.ai λ_=>?_;obtain d|d:=iK w.inf
 .simp[g.ai];refine bA (wF w.q dP (f.q.mono (by omega))) rfl ?_;simp[d];exact⟨λ_ h=>by have:=(Aq.1 h).2;simp[d]at this,λ_ h=>by have:=(Aq.1 h).2;simp[d]at this⟩
 .simp[g.ai];refine bA (wF w.q dP (f.q.mono (by omega))) rfl ?_;simp[d];simp only[Aq,yN,wY,d];refine⟨λi h=>i h.1,λi=>⟨λj=>⟨λk=>⟨λl=>?_,λl h=>l h.2.2.2.2.1⟩,λk h=>k h.2.2.2.1⟩,λj h=>j h.2.1⟩⟩;refine bA (P' w.aR f.aR (by have:=f.len;omega)) rfl ?_;simp[i,j,k,l]
def PT(k:Int)(w:GW)(f:1<=k/\k<=5)(d:w.sm 1048576):zS 149 [g6 k,enc w] (.bool (decide (w.si k))):=by
 have:k=1\/k=2\/k=3\/k=4\/k=5:=by omega
 obtain rfl|rfl|rfl|rfl|rfl:=this
 .exact XS w d
 .exact XT w d
 .exact XU w d
 .exact XV w d
 .exact XW w d
def GW.aJ(r:aC)(w:GW):Prop:=r.ok=true/\(r.kind≠6->w.si r.kind)/\(r.kind=6->w.parts.length=r.parts.length/\w=.mk dP 0 false 0 [] w.parts/\∀ i,(h:i<r.parts.length)->(d:i<w.parts.length)->w.parts[i].si r.parts[i])
noncomputable instance (r:aC) (w:GW):Decidable (w.aJ r):=Classical.propDecidable _
def aC.cJ{r:aC}(h:r.ok=true)(d:r.kind≠6):1<=r.kind/\r.kind<=5/\r.parts=[]:=by simp only[aC.ok,bD d,decide_eq_true_eq]at h;exact h
def aC.bQ{r:aC}(h:r.ok=true)(d:r.kind=6):2<=r.parts.length/\r.parts.length<=3/\∀ k∈r.parts,1<=k/\k<=5:=by simp only[aC.ok,aX d,decide_eq_true_eq]at h;exact h
@[simp] theorem GW.qM(q:aT)(c:Int)(i:Bool)(s:UInt64)(p:List aF)(ps:List GW):(GW.mk q c i s p ps).q=q:=rfl
@[simp] theorem GW.kE(q:aT)(c:Int)(i:Bool)(s:UInt64)(p:List aF)(ps:List GW):(GW.mk q c i s p ps).cost=c:=rfl
@[simp] theorem GW.j2(q:aT)(c:Int)(i:Bool)(s:UInt64)(p:List aF)(ps:List GW):(GW.mk q c i s p ps).inf=i:=rfl
@[simp] theorem GW.set_mk(q:aT)(c:Int)(i:Bool)(s:UInt64)(p:List aF)(ps:List GW):(GW.mk q c i s p ps).set=s:=rfl
@[simp] theorem GW.gZ(q:aT)(c:Int)(i:Bool)(s:UInt64)(p:List aF)(ps:List GW):(GW.mk q c i s p ps).aR=p:=rfl
@[simp] theorem GW.c8(q:aT)(c:Int)(i:Bool)(s:UInt64)(p:List aF)(ps:List GW):(GW.mk q c i s p ps).parts=ps:=rfl
@[simp] theorem ym9:dP.neg=false:=rfl
@[simp] theorem ym8:dP.num=[]:=rfl
@[simp] theorem yna:dP.den=[]:=rfl
def yf(n:Nat):dP.sm n:=⟨by simp[dP],by simp[dP]⟩
def GW.sm.bM{n:Nat}{ps:List GW}(h:ps.length<=n)(k:∀ w∈ps,w.sm n):(GW.mk dP 0 false 0 [] ps).sm n:=.mk (yf n) (by intro m hm;simp at hm) (by simp) h k
def F8(r:aC)(w:GW)(t:w.sm 1048576):zS 108 [enc r,enc w] (.bool (decide (w.aJ r))):=by
 refine Sp.vz c.dv λ_=>?_;simp[g.dv];refine bA (oG r) rfl ?_;obtain d|d:=iK r.ok;rotate_left
 .simp[d,GW.aJ]
 simp[d];refine⟨λf=>?_,λf=>?_⟩;rotate_left
 .have j:=aC.cJ d f;refine aW (PT r.kind w ⟨j.1,j.2.1⟩ t) ?_;simp[GW.aJ,d,f]
 refine⟨λC=>?_,λC h=>?_⟩;rotate_left
 .have:=(h.2.2 f).1;omega
 have x:w.parts.length=r.parts.length:=by omega
 have E:=aC.bQ d f;refine aW (Iy (.mk dP 0 false 0 [] w.parts) (.bM t.uU t.parts) w) ?_;by_cases s:GW.mk dP 0 false 0 [] w.parts=w;rotate_left
 .simp[s];exact λh=>s (h.2.2 f).2.1.symm
 simp[s]
 refine b6 (S:=λk:Nat=>aB [(2,i0 1),(3,i0 2),(5,f8 k)] [(1,⟨2,[.p (enc r)]⟩),(2,⟨8,[.p (enc w)]⟩)]) (I:=λk=>k<=r.parts.length/\∀ i,(h:i<r.parts.length)->(n:i<w.parts.length)->i<k->w.parts[i].si r.parts[i]) (m:=λk=>r.parts.length - k) 0
  (aA.to [2,3,5] [((2,0),1),((3,0),2)] (by simp)) ⟨by omega,λi h n H=>by omega⟩ ?_
 rintro k ⟨J,y⟩ R D F G;have z:=aZ k;simp[g.vo,aB];refine⟨λj=>?_,λj=>G _ _ ?_⟩
 .have l:k<w.parts.length:=by omega
  refine bK j ?_;refine bK l ?_;refine aW (PT r.parts[k] w.parts[k] (E.2.2 _ (bU j)) (t.parts _ (bU l))) ?_;by_cases o:w.parts[k].si r.parts[k]
  .simp[o,z];refine D (k+1) _ (aA.to [2,3,5] [((1,0),1),((2,0),2)] (by simp)) ⟨by omega,λi h n L=>?_⟩ (by omega);by_cases u:i<k
   .exact y i h n u
   .have:i=k:=by omega
    subst this;exact o
  .simp[o];refine F _ ?_;have:¬ w.aJ r:=λh=>o ((h.2.2 f).2.2 k j l);simp[this]
 .have:w.aJ r:=⟨d,λh=>absurd f h,λ_=>⟨x,s.symm,λi h n=>y i h n (by omega)⟩⟩;simp[this]
def TM(m n:aF):m=n ↔ (m.e.a=n.e.a/\m.e.b=n.e.b/\m.e.c=n.e.c)/\m.bE=n.bE:=by obtain⟨⟨a,b,c⟩,q⟩:=m;obtain⟨⟨d,f,h⟩,i⟩:=n;simp
def Yn(m n:aF)(k:m.bE.sm 1048576):zS 168 [enc m,enc n] (.bool (decide (m=n))):=by
 refine Sp.vz c.kd λ_=>?_;simp[g.kd];refine⟨λd f i=>?_,λh=>?_⟩
 .refine bA (QJ m.bE n.bE (k.mono (by omega))) rfl ?_;simp[TM,d,f,i]
 .have j:m≠n:=λe=>by obtain⟨⟨d,f,i⟩,_⟩:=(TM m n).1 e;exact h d f i
  simp[j]
def CV(v:GW)(d:v.sm 1048576):∀ w:GW,zS 128 [enc v,enc w] (.bool (decide (v=w))):=by
 revert v;refine GW.sm.ind λv d r w=>?_;refine Sp.vz c.be λp=>?_;simp[g.be];refine bA (QJ v.q w.q (d.q.mono (by omega))) rfl ?_;by_cases f:v.q=w.q;rotate_left
 .have:v≠w:=λh=>f (by rw[h]);simp[f,this]
 simp[f];refine⟨λj=>?_,λj=>?_⟩;rotate_left
 .exact λh=>j (by rw[h])
 refine⟨λk=>?_,λk=>?_⟩;rotate_left
 .exact λh=>k (by rw[h])
 refine⟨λo=>?_,λl=>?_⟩;rotate_left
 .exact λh=>l (by rw[h])
 have l:v.set=w.set:=UInt64.toNat_inj.1 (by omega);refine bA (Wd v.aR w.aR 168 (by have:=d.len;omega) λx n y _=>Yn x y (d.aR x n)) rfl ?_;by_cases i:v.aR=w.aR;rotate_left
 .have:v≠w:=λh=>i (by rw[h]);simp[i,this]
 simp[i];refine bA (V2 v.parts w.parts 128 (by have:=d.uU;omega) λx n y _=>r x n y) rfl ?_;by_cases m:v.parts=w.parts
 .have:v=w:=GW.ext f j k l i m;simp[this]
 .have:v≠w:=λh=>m (by rw[h]);simp[m,this]
section
variable {P:Program} {K:Ctx} {Z Z':Cz} {st st' st1 st2:St} {w w':World} {a:Act} {N:Nat} {ex:Exit} {A B:Option FA} {Post:Exit->St->Option FA->Prop} {cC:St->Option FA->Prop}
def VZ{c:Callee}{j:Array TypeId}{f:List bP}{i:FuncId}{d:List bP}(h:B4 P c j f=some (.call i d)):∃ g,c=.value g/\dJ g=some (.c (.p (.fn i [])))/\f=d:=by
 unfold B4 at h;split at h
 .grind
 .grind
 .exfalso
  repeat' split at h
  all_goals first
   | cases h
   | (obtain⟨_,_,h⟩:=cO h;cases h)
def nI{α : Type}{x:Option α}{f : α -> Option c7}{i:FuncId}{d:List bP}(h:x.bind f=some (.call i d))(k:∀ y,f y≠some (.call i d)):False:=by obtain⟨y,_,h⟩:=lv h;exact k y h
def vx{α : Type}{x:Option α}{f : α -> c7}{i:FuncId}{d:List bP}(h:x.map f=some (.call i d))(k:∀ y,f y ≠ .call i d):False:=by simp_all
def Vl{t:TypeId}{m k:Operand}{c:Bool}{f:FuncId}{d:List bP}(h:CP P t m k c=some (.call f d)):False:=by
 unfold CP at h
 repeat' split at h
 all_goals first
  | exact nI h λ_ h=>nI h λ_ h=>nI h λ_ h=>vx h λ_ h=>by cases h
  | cases h
def VJ{t:TypeId}{x:Operand}{j i mx:Option Operand}{f:FuncId}{d:List bP}(h:El P t x j i mx=some (.call f d)):False:=by
 unfold El at h
 repeat' split at h
 all_goals first
  | exact nI h λ_ h=>nI h λ_ h=>vx h λ_ h=>by cases h
  | cases h
def UY{i:BinOp}{x y:bP}{f:FuncId}{d:List bP}(h:CD i x y=some (.call f d)):False:=by
 unfold CD at h
 grind
def Vn{i:Fn}{x y:Array Operand}{f:FuncId}{d:List bP}(h:Ej i x y=some (.call f d)):False:=by
 unfold Ej at h
 repeat' split at h
 all_goals first
  | exact vx h λ_ h=>by cases h
  | cases h
def MI{i:Op}{j:FuncId}{d:List bP}(h:oD P i=some (.call j d)):∃ f h,i=.call f/\f.callee=.value h/\dJ h=some (.c (.p (.fn j [])))/\oX f.args.toList=some d:=by
 cases i
 case call c =>
  obtain⟨l,r,h⟩:=lv h;obtain⟨g,n,o,rfl⟩:=VZ h
  grind
 case lookup t m k c=>exact(Vl h).elim
 case slice=>exact(VJ h).elim
 case makeFunc=>exact(Vn h).elim
 case move|assign|alloc|box|nilCheck|extract=>exact(vx h λ_ h=>by cases h).elim
 case pick=>exact(nI h λ_ h=>nI h λ_ h=>vx h λ_ h=>by cases h).elim
 case binOp =>
  refine(nI h λ_ h=>nI h λ_ h=>?_).elim;split at h
  .grind
  .grind
  .exact UY h
  .simp_all
 case unOp =>
  refine(nI h λ_ h=>?_).elim;split at h<;>cases h
 case convert =>
  refine(nI h λ_ h=>?_).elim;split at h<;>cases h
 case load=>refine(nI h λ_ h=>?_).elim;split at h<;>cases h
 case store=>refine(nI h λ_ h=>nI h λ_ h=>?_).elim;split at h<;>cases h
 case build =>
  simp only[oD]at h;split at h
  .refine(nI h λ_ h=>nI h λ_ h=>?_).elim;split at h
   .exact vx h λ_ h=>by cases h
   .cases h
  .refine(nI h λ_ h=>nI h λ_ h=>?_).elim;split at h
   .exact vx h λ_ h=>by cases h
   .cases h
  .cases h
 case buildSlice =>
  simp only[oD]at h;split at h
  .exact(nI h λ_ h=>vx h λ_ h=>by cases h).elim
  .cases h
 case makeSlice =>
  simp only[oD]at h;split at h
  .refine(nI h λ_ h=>nI h λ_ h=>nI h λ_ h=>?_).elim;split at h<;>cases h
  .cases h
 case fieldAddr =>
  simp only[oD]at h;split at h
  .split at h
   .split at h
    .exact(vx h λ_ h=>by cases h).elim
    .cases h
   .cases h
  .cases h
 case field =>
  simp only[oD]at h;split at h
  .split at h
   .split at h
    .exact(vx h λ_ h=>by cases h).elim
    .cases h
   .cases h
  .cases h
 case indexAddr =>
  simp only[oD]at h;split at h
  .split at h
   .exact(nI h λ_ h=>vx h λ_ h=>by cases h).elim
   .cases h
  .split at h
   .exact(nI h λ_ h=>vx h λ_ h=>by cases h).elim
   .cases h
  .cases h
 case index =>
  simp only[oD]at h;split at h
  .split at h
   .exact(nI h λ_ h=>vx h λ_ h=>by cases h).elim
   .cases h
  .exact(nI h λ_ h=>vx h λ_ h=>by cases h).elim
  .cases h
 all_goals cases h
theorem Ma{d:Option Nat}{f:FuncId}{xs:List bP}{r:Nat}{ks vs args G H:List PV}(U:DH P f ks vs args G H)(br:xs.map st.ev=.p (.fM r)::args.map .p)(bb:jR G=true)(bk:jR H=true)
  (k:cC (st.put d (.p (.bM []))) (some (sN r G H))):ql P N ⟨d,.call f xs,none⟩ st (some (sN r ks vs)) cC:=by
 intro bt j o K Z w a Q Kt hN hj au E hA hK;obtain⟨h1,h2,h3,h4⟩:=EE au;obtain⟨X,h,bo,hf,hh,ag⟩:=MI h1;have hg:o.guard=none:=by
  cases hg:o.guard with
  | none=>rfl
  | some jb =>
   obtain⟨j,b⟩:=jb;rw[hg]at h2;simp only[A3]at h2;split at h2<;>cases h2
 have hw:Region.wanted o (yielded bt a.tmps)=true:=by simp[Region.wanted,hg]
 have hd:d=o.dst:=h3;obtain⟨av,U⟩:=U;have hr:=CJ ag E;rw[br]at hr;have af:=fH hh E;simp only[St.ev]at af;have aw:a.eval h=.func (.func f) #[] #[]:=by
  have hp:=af.cF;generalize a.eval h=F at hp ⊢;cases hp with
  | fn _ _ D h=>cases h;rfl
 have O:(execOp a.eval o).run P w=.ok (.enter f ((X.args.toList.map a.eval).toArray)) w:=by
  have:=Gq (P:=P) (w:=w) (args:=(X.args.toList.map a.eval).toArray) av;simp only[execOp,bo,resolve,hf,aw,Deferred.ofValue,mW,oJ,qF,invoke];have e : #[]++X.args.map a.eval ++ #[]=(X.args.toList.map a.eval).toArray:=by simp[<- Array.toList_map]
  rw[e];exact this
 have al:PReps Z.M (.fM r::args) (X.args.toList.map a.eval):=aG.pq (by simpa using hr);generalize X.args.toList.map a.eval=D at al O;obtain⟨S,hX,es,n,q0,q1,q2,q3,q4,q5⟩:=hA;simp only[sN]at S hX q0
 let I:Nat->Option Obj:=λb=>if b=r then w.heap[r]? else Z.M b
 have x:∀ b o,Z.M b=some o->I b=some o:=λb o C=>by
  simp only[I];rw[bD];· exact C
  .rintro rfl;rw[S.m]at C;cases C
 have aq:∀ b o,I b=some o->w.heap[b]?=some o:=λb o C=>by
  simp only[I]at C;split at C
  .rename_i t;subst t;exact C
  .exact E.heap.mem b o C
 have V:PReps I (.mp r ks vs::args) D:=by
  cases al with
  | cons _ _ _ _ h0 h1 =>
   cases h0;exact .cons _ _ _ _ (.mp r ks vs es n (by simp only[I,cH];exact q0) (q1.mono x) (q2.mono x) q3 q4 q5) (h1.mono x)
 refine(show o.wp P a w Kt Q from ?_) |> λh=>by unfold wpOp;simp only[hj,hw,cH];exact .inl h
 unfold Oper.wp;rw[O,E2];refine(U w I r D aq V).mono ?_;rintro e w' ⟨W,rfl,p1,p2,p3,p4,p5⟩;obtain⟨l,i,t0,t1,t2,t3,t4,t5⟩:∃ l i,W r=some (.map l i)/\PReps W G (l.toList.map (·.key))/\PReps W H (l.toList.map (·.val))/\(l.toList.map (·.key)).Nodup/\(∀ e∈l.toList,e.born<i)/\(l.toList.map (·.born)).Nodup:=by
  cases p5 with
  | mp _ _ _ es n m0 m1 m2 m3 m4 m5=>exact⟨es,n,m0,m1,m2,m3,m4,m5⟩
 let z:Nat->Option Obj:=λb=>if b=r then none else W b
 have Y:∀ b o,z b=some o->b≠r/\W b=some o:=λb o h=>by
  simp only[z]at h;split at h
  .cases h
  .exact⟨by assumption,h⟩
 have u:∀ b R T fr,W b=some (.cells R T fr)->z b=some (.cells R T fr):=λb R T fr h=>by
  simp only[z];rw[bD];· exact h
  .rintro rfl;rw[t0]at h;cases h
 have L:∀ b o,z b=some o->Z.M b=some o\/w.heap.size<=b:=λb o h=>by
  obtain⟨g1,g2⟩:=Y b o h;obtain h|h|h:=p3 b o g2
  .exact absurd h g1
  .simp only[I]at h;rw[bD g1]at h;exact .inl h
  .exact .inr h
 have ap:bG K Z st w':=E.heap.world p4 λb t=>by subst t;exact⟨S.m,S.o,hX⟩
 have J:∀ b o,Z.M b=some o->z b=some o:=λb o t=>by
  have ad:b≠r:=by rintro rfl;rw[S.m]at t;cases t
  simp only[z];rw[bD ad];exact p1 b o ad (x b o t)
 have ao:bG K { Z with M:=z } st w':=by
  refine ap.grow (Keep.refl _ _) z J (λb o t=>p2 b o (Y b o t).2) (λb o t=>?_) (λs g o b C t=>?_)
  .obtain h|h:=L b o t
   .exact .inl h
   .exact .inr (.inr (dM E.heap.keep.size h))
  .cases hm:z b with
   | none=>rfl
   | some y =>
    obtain h|h:=L b y hm
    .rw[E.heap.sep s g o b C t]at h;cases h
    .have:=E.heap.lt C t;omega
 have hz:cP Z st { Z with M:=z } st:=.j3 J;refine hK _ _ _ _ _ k (?_:aN K { Z with M:=z } (st.put d (.p (.bM []))) w' _) (nN.site ?_ λs=>pT st d _ s)
 .rw[hd];exact E.put rfl hz ao (.p _ _ (.bM [] [] .nil)) (by subst hN;exact h4) E.defers
 .refine⟨⟨by simp[z,sN],S.o,?_⟩,hX,l,i,p2 _ _ t0,t1.cN u bb,t2.cN u bk,t3,t4,t5⟩;exact iL S.lt p4.size
theorem MR.freeze{ac:AC}{t r:Nat}{ks vs:List PV}(I:st.get t=.p (.fM r))(k:MR P N ac (st.put (some t) (.p (.mp r ks vs))) none Post):MR P N ac st (some (sN r ks vs)) Post:=by
 intro code H K Z w a Q F hs E G;obtain⟨x,C,es,clock,D,J,L,O,R,S⟩:=E;simp only[sN]at x C D
 let h:Nat->Option Obj:=λb=>if b=r then w.heap[r]? else Z.M b
 have d:∀ b o,Z.M b=some o->h b=some o:=λb o l=>by
  simp only[h];rw[bD];· exact l
  .rintro rfl;rw[x.m]at l;cases l
 have y:bG K { Z with M:=h } st w:=by
  refine hs.heap.grow (Keep.refl _ _) h d (λb o f=>?_) (λb o f=>?_) (λs g o b l f=>?_)
  .simp only[h]at f;split at f
   .rename_i j;subst j;exact f
   .exact hs.heap.mem b o f
  .simp only[h]at f;split at f
   .rename_i j;subst j;exact .inr C
   .exact .inl f
  .simp only[h];rw[bD];· exact hs.heap.sep s g o b l f
   .rintro rfl;exact x.o s g o l f
 have hz:cP Z st { Z with M:=h } st:=.j3 d;have z:aN K { Z with M:=h } (st.put (some t) (.p (.mp r ks vs))) w a:=by
  refine⟨λu=>?_,hs.defers,hs.size,y.jl λi=>pT _ _ _ i⟩;rw[xM];split
  .rename_i hu;cases hu;have n:=hs.aY t;rw[I]at n;have n:=n.cF;generalize a.tmps.getD t Go.undef=X at n;cases n;exact .p _ _ (.mp r ks vs es clock (by simp only[h,cH];exact D) (J.mono d) (L.mono d) O R S)
  .exact aQ.mono (sC (λi=>pT _ _ _ i) _) (aQ.mono hz (hs.aY u))
 exact k code H K _ w a Q F z trivial G
theorem Sp.fZ{f:FuncId}{args:List PV}{res:RV}{n np:Nat}{b:GC}{rs:List (Nat × Option Nat)}(d:aP P f=some ⟨n,np,b.er,rs⟩)(hn:args.length<=n)
  (h:MR P n b.er (vy args) none λex s _=>iD rs res ex s):Sp P f args res:=by
 unfold aP at d;split at d
 .rename_i fn E;split at d
  .rename_i k;split at d
   .rename_i c D;split at d
    .rename_i W p t u;simp only[cD,Cv.mk.injEq]at d;obtain⟨rfl,_,rfl,rfl⟩:=d;refine⟨⟨fn,E,by rw[D];rfl,k⟩,λw M vals I m=>?_⟩;refine calls_of_wp E D ?_;refine h _ t ⟨w,M,λ_=>False,fn.ntmps⟩ _ w _ _ rfl (LH I m hn) trivial (λex st' A' Z' w' C hp hs _=>?_);have J:(ex=.ret\/ex=.normal)/\∃ vs,oF st' p=some vs/\pL st' (dD vs) res:=by
      have key:(ex=.ret\/ex=.normal)/\∃ vs,oF st' p=some vs/\kO st' (dD vs) res:=by
       cases ex with
       | ret=>exact⟨.inl rfl,hp⟩
       | normal=>exact⟨.inr rfl,hp⟩
       | _=>exact hp.elim
      obtain⟨L,vs,V,j⟩:=key;refine⟨L,vs,V,?_⟩;unfold kO at j;split at j
      .exact .pure _ _ j
      .split at j
       .rename_i sz es s' g off len m;obtain⟨o,t,rfl,u,rfl,H⟩:=j;rw[m];exact .fresh _ _ _ _ _ t u H
       .rename_i m;rw[m,j];exact .nil _
       .exact j.elim
      .exact j.elim
     obtain⟨y,vs,z,l⟩:=J
     have i:C.defers=[]/\∃ v,(results fn C.tmps).run P w'=.ok v w'/\∃ x M',Ending.returned v=.returned x/\(∀ b o,M b=some o->M' b=some o)/\(∀ b o,M' b=some o->w'.heap[b]?=some o) /\
       (∀ b o,M' b=some o->M b=some o\/w.heap.size<=b)/\Keep w w' (λ_=>False)/\sq M' w w' res x:=by
      obtain⟨xs,F,G⟩:=D7 hs u z;obtain⟨M',O,Q,R,S,U⟩:=LN hs.heap G.dD l;refine⟨hs.defers,_,?_,_,M',rfl,O,Q,R,S,U⟩;unfold results;rw[EY];simp only[mW,map_eq_pure_bind,oJ];exact congrArg (λr=>(Result.andThen r λa w'=>Result.ok a.toArray w').andThen λ(a:Array Value) w'=>Result.ok (if h:a.size=1 then a[0]else Value.tuple a) w') F
     obtain rfl|rfl:=y
     .exact i
     .exact i
    .cases d
   .cases d
  .cases d
 .cases d
end
section
variable {P:Program} {K:Ctx} {st st' st1:St} {N:Nat} {A B:Option FA} {Post:Exit->St->Option FA->Prop} {cC:St->Option FA->Prop}
def MR.dG{a b:GC}(h:vm P N (λex s=>(ex=.normal->MR P N b.er s A Post)/\(ex ≠ .normal->Post ex s A)) [.code a] st):MR P N (GC.seq a b).er st A Post :=
 .seq (.cE h)
def MR.cK{a b:GC}(h:MR P N a.er st A λex s B=>(ex=.normal->MR P N b.er s B Post)/\(ex ≠ .normal->Post ex s B)):MR P N (GC.seq a b).er st A Post:=.seq h
theorem MR.eY{a b:GC}{c:bP}{d:List Nat}{t:Bool}(i:st.ev c=i4 t)(f:t=true->MR P N a.er (st.drop d) A Post)(h:t=false->MR P N b.er (st.drop d) A Post):MR P N (GC.cond c d a b).er st A Post:=by
 refine .cond i ?_;cases t with
 | true=>exact .eE (II _ _) (f rfl)
 | false=>exact .eE (II _ _) (h rfl)
def MR.yW{ops:List Ins}{pre dead:List (List Nat)}{i:Ins}(f:ops.getLast?=some i)(hl:Nb pre ops.dropLast.length=true)
  (h:vm P N (λex s=>ex=.normal->ql P N i s A λs B=>Post .normal s B) [.fN ops.dropLast [] pre dead] st):MR P N (GC.fR ops pre dead).er st A Post:=by
 obtain⟨gs,s1,n,j,k,l,m⟩:=lL _ (dE _) h;have e:ops=ops.dropLast++[i]:=by
  have d:ops≠[]:=by rintro rfl;simp at f
  rw[List.getLast?_eq_getLast d]at f;rw[<- Option.some.inj f];exact(List.dropLast_concat_getLast d).symm
 show MR P N (.fR ops pre) st A Post;rw[e];exact .G9 j (by simpa using k) hl (.eE l (m rfl))
def MR.mC{ops:List Ins}{dead:List (List Nat)}(h:eC P N ops st A λs B=>Post .normal s B):MR P N (GC.cX ops dead).er st A Post:=.cX h
def AU(n:Nat)(d:List (List Nat)){ops:List Ins}(h:Go.Ab.vm P N (λex s=>ex=.normal->eC P N (ops.drop n) s A cC) [.ins (ops.take n) d] st):eC P N ops st A cC:=by
 have:=eC.vm h
 rwa[oK]at this
def eC.nil(h:cC st A):eC P N [] st A cC:=⟨st,aA.refl _,h⟩
def eC.cons{i:Ins}{is:List Ins}(h:ql P N i st A λs B=>eC P N is s B cC):eC P N (i::is) st A cC:=h
def MR.kR{b:GC}{id:Nat}(h:MR P N b.er st A λex s B=>Post (Ot id ex) s B):MR P N (GC.bX id b).er st A Post:=.bX h
def MR.nL{b:GC}{I:Nat->St->Option FA->Prop}(n:Nat)(d:I n st A)(step:∀ n st A,I n st A->MR P N b.er st A λex s B=>(ex=.normal->∃ m,m<n/\I m s B)/\(ex ≠ .normal->Post ex s B)):MR P N (GC.loop b).er st A Post:=.loop n d step
def MR.uW{id:Nat}(h:Post (.exit id) st A):MR P N (GC.ext id).er st A Post:=.ext h
def MR.pE(h:Post .normal st A):MR P N GC.js.er st A Post:=.js h
attribute [simp] jR PV.cN
end
section
variable {κ α : Type} [Enc κ] [Enc α] [DecidableEq κ]
def jZ(e : κ):List (κ × α)->Option α
 | []=>none
 | (d,c)::L=>if d=e then some c else jZ e L
def kQ(e : κ)(c : α):List (κ × α)->List (κ × α)
 | []=>[(e,c)]
 | (d,f)::L=>if d=e then(d,c)::L else(d,f)::kQ e c L
def n3(L:List (κ × α)):List PV:=L.map λp=>enc p.1
def pD(L:List (κ × α)):List PV:=L.map λp=>enc p.2
theorem RA{kc : κ -> List PV}(h:∀ e,enc e=.agg (kc e))(d:∀ e f,tD (kc e) (kc f)=true ↔ e=f)(e : κ):∀ L:List (κ × α),oE (kc e) (n3 L) (pD L)=(jZ e L).map enc
 | []=>rfl
 | (f,c)::L=>by
  simp only[n3,pD,jH,h,oE,d,jZ];split
  .rfl
  .have:=RA h d e L;simp only[n3,pD,h]at this;exact this
theorem Q9{kc : κ -> List PV}(f:∀ e,enc e=.agg (kc e))(d:∀ e h,tD (kc e) (kc h)=true ↔ e=h)(e : κ)(c : α):∀ L:List (κ × α),mQ (kc e) (enc c) (n3 L) (pD L)=(n3 (kQ e c L),pD (kQ e c L))
 | []=>by simp[n3,pD,mQ,kQ,f]
 | (h,j)::L=>by
  have i:=Q9 f d e c L;simp only[n3,pD,f]at i;simp only[n3,pD,jH,f,mQ,d,kQ];split
  .rfl
  .simp only[i,jH]
theorem L'(e : κ)(c : α)(d : κ):∀ L:List (κ × α),jZ d (kQ e c L)=if e=d then some c else jZ d L
 | []=>rfl
 | (i,k)::L=>by
  have j:=L' e c d L;by_cases h:i=e
  .subst h;simp only[kQ,cH,jZ];by_cases f:i=d
   .simp[f]
   .simp[f]
  .simp only[kQ,bD h,jZ,j];by_cases f:i=d
   .subst f;simp[wJ h]
   .simp[f]
theorem PE(e : κ)(c : α):∀ L:List (κ × α),(kQ e c L).map (·.1)=if e∈L.map (·.1)then L.map (·.1)else L.map (·.1)++[e]
 | []=>rfl
 | (i,f)::L=>by
  have d:=PE e c L;simp only[kQ];split
  .rename_i h;subst h;simp
  .rename_i h;simp only[jH,d,cI,wJ h,false_or];split<;>rfl
theorem TB{e : κ}{c : α}:∀ {L:List (κ × α)},jZ e L=some c->(e,c)∈L
 | (i,f)::L,h=>by
  simp only[jZ]at h;split at h
  .rename_i d;subst d;cases h;simp
  .exact tX _ (TB h)
def Yz(e : κ)(c : α){L:List (κ × α)}(h:(L.map (·.1)).Nodup):((kQ e c L).map (·.1)).Nodup:=by
 rw[PE];split
 .exact h
 .rename_i i;exact GS.2 ⟨h,by simp,λa f b d=>by simp at d;subst d;rintro rfl;exact i f⟩
end
def Ht(P:Program)(f:FuncId)(vals:List Value)(i:RV):Prop :=
 (∃ h,P.funcs[f]?=some h/\h.body.isSome=true/\h.name ≠ "runtime.NumGoroutine") /\
 ∀ (w:World) (M:Nat->Option Obj),(∀ b o,M b=some o->w.heap[b]?=some o) ->
  Calls P f vals.toArray w λe w'=>∃ x d,e=.returned x/\(∀ b o,M b=some o->d b=some o)/\(∀ b o,d b=some o->w'.heap[b]?=some o) /\
   (∀ b o,d b=some o->M b=some o\/w.heap.size<=b)/\Keep w w' (λ_=>False)/\sq d w w' i x
section
variable {P:Program} {K:Ctx} {Z Z':Cz} {st st' st1:St} {w w':World} {a:Act} {N:Nat} {A B:Option FA} {Post:Exit->St->Option FA->Prop} {cC:St->Option FA->Prop} {v:AV}
theorem XA{d:Option Nat}{f:FuncId}{xs:List bP}{vals:List Value}{l:RV}(i:Ht P f vals l)(hv:∀ (Z:Cz) (S:List Value),aG Z st (xs.map st.ev) S->S=vals)(r:zN ⟨f,[],l,none⟩ st (d.getD 0) []=some (v,st1))(J:st1.sl=st.sl)
  (k:cC (st1.put d v) none):ql P N ⟨d,.call f xs,none⟩ st none cC:=by
 intro O j o K Z w a Q Kt Y hj C m hA X;obtain⟨U,y,V,W⟩:=EE C;obtain⟨u,h,I,hf,hh,p⟩:=MI U;have G:o.guard=none:=by
  cases G:o.guard with
  | none=>rfl
  | some jb =>
   obtain⟨j,b⟩:=jb;rw[G]at y;simp only[A3]at y;split at y<;>cases y
 have hw:Region.wanted o (yielded O a.tmps)=true:=by simp[Region.wanted,G]
 have hd:d=o.dst:=V;obtain⟨D,i⟩:=i;have hr:=CJ p m;have n:=fH hh m;simp only[St.ev]at n;have E:a.eval h=.func (.func f) #[] #[]:=by
  have R:=n.cF;generalize a.eval h=F at R ⊢;cases R with
  | fn _ _ vals h=>cases h;rfl
 have L:u.args.toList.map a.eval=vals:=hv Z _ (by simpa using hr);have t:(execOp a.eval o).run P w=.ok (.enter f vals.toArray) w:=by
  have:=Gq (P:=P) (w:=w) (args:=(u.args.toList.map a.eval).toArray) D;simp only[execOp,I,resolve,hf,E,Deferred.ofValue,mW,oJ,qF,invoke];have e : #[]++u.args.map a.eval ++ #[]=(u.args.toList.map a.eval).toArray:=by simp[<- Array.toList_map]
  rw[e,this,L]
 refine(show o.wp P a w Kt Q from ?_) |> λh=>by unfold wpOp;simp only[hj,hw,cH];exact .inl h
 unfold Oper.wp;rw[t,E2];have H:∀ b o,Mx Z st w [] b=some o->Z.M b=some o:=λb o z=>by
  obtain h|⟨_,_,s,g,ob,h,_⟩:=rM z
  .exact h
  .cases h
 refine(i w (Mx Z st w []) (λb o z=>m.heap.mem b o (H b o z))).mono ?_;rintro e w' ⟨x,M',rfl,p1,p2,p3,p4,p5⟩;obtain⟨Z',q1,q2,q3⟩:=Pp (c:=⟨f,[],l,none⟩) (vs:=[]) m.heap p1 p2 p3 p4 p5 r;refine X _ _ Z' _ _ k ?_ trivial;rw[hd];exact m.put J q3 q1 q2 (by subst Y;exact W) m.defers
theorem aA.Dk{t s sz:Nat}{es:List AV}(hp:s<fU):aA ⟨[(t,.own s 0 0 0)],[(s,[some ⟨sz,es⟩])]⟩ ⟨[(t,.own s 0 0 0)],[(s,[some ⟨sz,[]⟩])]⟩:=by
 intro K Z w a hs;have d:∀ (es:List AV) s' g' o',(⟨[(t,.own s 0 0 0)],[(s,[some ⟨sz,es⟩])]⟩:St).obj s' g'=some o'->s'=s/\g'=0/\o'=⟨sz,es⟩:=by
  intro es s' g' o' h;simp only[St.obj,St.site,look]at h;split at h
  .rename_i n;cases g' with
   | zero=>simp at h;exact⟨n.symm,rfl,h.symm⟩
   | succ g=>simp at h
  .simp at h
 have f:∀ es:List AV,(⟨[(t,.own s 0 0 0)],[(s,[some ⟨sz,es⟩])]⟩:St).obj s 0=some ⟨sz,es⟩:=λes=>by simp[St.obj,St.site,look]
 have r:=hs.heap.bT s 0 _ (f es);refine⟨Z,⟨λu=>?_,hs.defers,hs.size,⟨λs' g' o' h=>?_,λs1 E L F o1 J b k p _ _=>?_,hs.heap.mem,λs' g' o' b h i=>?_,λs' g' o' b h i=>?_,hs.heap.m0,hs.heap.eM,hs.heap.keep⟩⟩,⟨λu a _=>?_,λu g a _ l _=>?_,λu g o a _ m=>?_⟩⟩
 case refine_6=>simp only[St.site,look];split<;>simp
 case refine_7 =>
  simp only[St.site,look]at l;split at l
  .omega
  .simp at l
 case refine_8=>have:=(d _ _ _ _ m).1;omega
 .have hu:=hs.aY u;simp only[St.get,look]at hu ⊢;split at hu
  .rename_i j;simp only[j,cH];generalize a.tmps.getD u Go.undef=x at hu;cases hu with
   | d' _ _ o m i=>exact .d' _ _ _ (f []) i
   | own _ _ _ _ o b ad c m i k p h3 y=>exact .own _ _ _ _ _ b ad c (f []) i k (λh=>absurd h (by omega)) (by simp) y
   | eO _ _ _ _ _ _ _ hd=>rw[f]at hd;cases hd
  .rename_i j;simp only[j,fQ];exact .undef _
 .obtain⟨rfl,rfl,rfl⟩:=d _ _ _ _ h;refine⟨r.pos,by simp,by simp,λ_=>rfl,λb i=>?_⟩;obtain⟨cur,T,vals,z,G,H,C,I,D⟩:=r.bX b i;exact⟨cur,T,[],z,.nil,by simp,C,by simp,D⟩
 .obtain⟨rfl,rfl,_⟩:=d _ _ _ _ k;obtain⟨rfl,rfl,_⟩:=d _ _ _ _ p;exact⟨rfl,rfl⟩
 .obtain⟨rfl,rfl,rfl⟩:=d _ _ _ _ h;exact hs.heap.sep _ _ _ b (f es) i
 .obtain⟨rfl,rfl,rfl⟩:=d _ _ _ _ h;exact hs.heap.own _ _ _ b (f es) i
theorem Ht.cE{f:FuncId}{vals:List Value}{res:RV}{n np:Nat}{b:GC}{rs:List (Nat × Option Nat)}(d:aP P f=some ⟨n,np,b.er,rs⟩)(hn:vals.length<=n)
  (F:st.hp=[]) (y:∀ (M:Nat->Option Obj) (t:Nat),aQ ⟨M,λ_ _=>none,λ_ _=>0⟩ st (st.get t) ((vals.toArray++Array.replicate (n - vals.toArray.size) Go.undef).getD t Go.undef))
  (h:vm P n (λex s=>∃ s',aA s s'/\iD rs res ex s') [.code b] st):Ht P f vals res:=by
 have l:∀ s g,st.obj s g=none:=λs g=>by simp[St.obj,St.site,F,look]
 obtain⟨ex,s,k,s',V,j⟩:=lL _ (dE _) h;have k:=k.sU V;have U:(ex=.ret\/ex=.normal)/\∃ vs,oF s' rs=some vs/\pL s' (dD vs) res:=by
  have key:(ex=.ret\/ex=.normal)/\∃ vs,oF s' rs=some vs/\kO s' (dD vs) res:=by
   cases ex with
   | ret=>exact⟨.inl rfl,j⟩
   | normal=>exact⟨.inr rfl,j⟩
   | _=>exact j.elim
  obtain⟨W,vs,r3,p⟩:=key;refine⟨W,vs,r3,?_⟩;unfold kO at p;split at p
  .exact .pure _ _ p
  .split at p
   .rename_i sz es s' g off len G;obtain⟨o,C,rfl,D,rfl,R⟩:=p;rw[G];exact .fresh _ _ _ _ _ C D R
   .rename_i G;rw[G,p];exact .nil _
   .exact p.elim
  .exact p.elim
 obtain⟨E,vs,H,z⟩:=U;unfold aP at d;split at d
 .rename_i fn L;split at d
  .rename_i u;split at d
   .rename_i c J;split at d
    .rename_i bd ad C D;simp only[cD,Cv.mk.injEq]at d;obtain⟨rfl,_,rfl,rfl⟩:=d;refine⟨⟨fn,L,by rw[J];rfl,u⟩,λw M S=>?_⟩;refine calls_of_wp L J ?_;refine k _ C ⟨w,M,λ_=>False,fn.ntmps⟩ ⟨M,λ_ _=>none,λ_ _=>0⟩ w _ _ rfl ⟨y M,rfl,by simp;omega,⟨λs g o i=>(by rw[l]at i;cases i),λs g _ _ o _ b i=>(by rw[l]at i;cases i),S,λs g o b i=>(by rw[l]at i;cases i),λs g o b i=>(by rw[l]at i;cases i),λ_ _ h=>h,λ_ _ h=>.inl h,Keep.refl w _⟩⟩ (λZ' w' I hs _=>?_)
     have m:I.defers=[]/\∃ v,(results fn I.tmps).run P w'=.ok v w'/\∃ x M',Ending.returned v=.returned x/\(∀ b o,M b=some o->M' b=some o)/\(∀ b o,M' b=some o->w'.heap[b]?=some o) /\
       (∀ b o,M' b=some o->M b=some o\/w.heap.size<=b)/\Keep w w' (λ_=>False)/\sq M' w w' res x:=by
      obtain⟨xs,O,Q⟩:=D7 hs D H;obtain⟨M',X,Y,m3,m4,m5⟩:=LN hs.heap Q.dD z;refine⟨hs.defers,_,?_,_,M',rfl,X,Y,m3,m4,m5⟩;unfold results;rw[EY];simp only[mW,map_eq_pure_bind,oJ];exact congrArg (λr=>(Result.andThen r λa w'=>Result.ok a.toArray w').andThen λ(a:Array Value) w'=>Result.ok (if h:a.size=1 then a[0]else Value.tuple a) w') O
     obtain rfl|rfl:=E
     .exact m
     .exact m
    .cases d
   .cases d
  .cases d
 .cases d
end
section
variable {P:Program} {K:Ctx} {Z Z':Cz} {st st':St} {w w':World} {a:Act}
def bG.yP(h:bG K Z st w){s g:Nat}{o:bI}(k:st.obj s g=some o){es:List AV}(hl:es.length=o.es.length)(F:∀ e∈es,e.sz=o.sz)(h3:∀ c∈es.flatMap AV.cells,c.one=true)
  (G:∀ b,Z.B s g=some b->∃ (cur:Array Value) (T:TypeId) (vals:List Value),w.heap[b]?=some (.cells cur T (0,0))/\aG Z st (es.flatMap AV.cells) vals /\
   (∀ (i:Nat) (v:Value),vals[i]?=some v->cur[i]?=some v)/\cur.size=Z.cap s g*o.sz/\o.es.length<=Z.cap s g/\Z.cap s g<=maxLen):bG K Z (st.setObj s g ⟨o.sz,es⟩) w:=by
 have n:=nQ k;have hz:=cP.setObj Z st s g o ⟨o.sz,es⟩ k rfl hl;have old:∀ {s' g':Nat} {o':bI},(st.setObj s g ⟨o.sz,es⟩).obj s' g'=some o'->∃ L,st.obj s' g'=some L:=by
  intro s' g' o' d;rw[vF _ _ _ _ _ _ n]at d;split at d
  .rename_i m;obtain⟨rfl,rfl⟩:=m;exact⟨o,k⟩
  .exact⟨o',d⟩
 refine⟨λs' g' o' d=>?_,λs' g' M E o' J b a1 p f r=>?_,h.mem,λs' g' o' b a1 f=>?_,λs' g' o' b a1 f=>?_,h.m0,h.eM,h.keep⟩
 .rw[vF _ _ _ _ _ _ n]at d;split at d
  .rename_i m;obtain⟨rfl,rfl⟩:=m;cases d;obtain⟨H,O,Q,I,R⟩:=h.bT s' g' o k;refine⟨H,F,h3,λl=>List.eq_nil_of_length_eq_zero (by rw[hl,I l];rfl),λb l=>?_⟩;obtain⟨cur,T,vals,u,x,y,z,C,D⟩:=G b l;exact⟨cur,T,vals,u,aG.mono hz x,y,z,by simpa[hl]using C,D⟩
  .exact(h.bT s' g' o' d).later hz rfl rfl (λ_ _=>rfl)
 .obtain⟨o1,j⟩:=old a1;obtain⟨S,t⟩:=old p;exact h.inj _ _ _ _ _ _ b j t f r
 .obtain⟨o1,j⟩:=old a1;exact h.sep _ _ _ b j f
 .obtain⟨o1,j⟩:=old a1;exact h.own _ _ _ b j f
theorem RM:∀ (ids:List (Nat × Nat)) {st:St} {s g:Nat} {o:bI},st.obj s g=some o->(s,g)∉ids->(aI st ids).obj s g=some o
 | [],_,_,_,_,h,_=>h
 | (i,f)::r,st,s,g,o,h,d=>by simp only[cI,c5,not_or]at d;rw[I7];refine RM r ?_ d.2;rw[BS,bD d.1];exact h
end
section
variable {P:Program} {K:Ctx} {Z Z':Cz} {st st':St} {w w':World} {a:Act}
def yi:List AV->List AV->Prop
 | [],[]=>True
 | x::l,y::r=>(x=y\/(x=.p .any/\y.one=true))/\yi l r
 | _,_=>False
theorem yi.G8:∀ {l r:List AV} {vals:List Value},yi l r->aG Z st r vals->aG Z st l vals
 | [],[],_,_,h=>h
 | [],_::_,_,h,_=>h.elim
 | _::_,[],_,h,_=>h.elim
 | x::l,y::r,_,h,.cons _ v _ vs d f=>by
  refine .cons _ _ _ _ ?_ (yi.G8 h.2 f);obtain rfl|⟨rfl,i⟩:=h.1
  .exact d
  .exact .p _ _ (.any _ (aQ.gF d i))
theorem yi.one:∀ {l r:List AV},yi l r->(∀ c∈r,c.one=true)->∀ c∈l,c.one=true
 | [],[],_,_,c,d=>by cases d
 | [],_::_,h,_,_,_=>h.elim
 | _::_,[],h,_,_,_=>h.elim
 | x::l,y::r,h,f,c,d=>by
  obtain rfl|d:=cI.1 d
  .obtain rfl|⟨rfl,_⟩:=h.1
   .exact f _ List.mem_cons_self
   .rfl
  .exact yi.one h.2 (λc d=>f c (tX _ d)) c d
theorem aA.pG{s g:Nat}{o:bI}(es:List AV)(d:st.obj s g=some o)(hl:es.length=o.es.length)(r:∀ e∈es,e.sz=o.sz)(i:yi (es.flatMap AV.cells) (o.es.flatMap AV.cells)):aA st (st.setObj s g ⟨o.sz,es⟩):=by
 intro K Z w a hs;have h:=hs.heap.bT s g o d;have hz:=cP.setObj Z st s g o ⟨o.sz,es⟩ d rfl hl;have f:=hs.heap.yP d hl r (i.one h.one) (λb t=>by
  obtain⟨cur,T,vals,j,k,l,m,n,p⟩:=h.bX b t;exact⟨cur,T,vals,j,i.G8 k,l,m,n,p⟩)
 refine⟨Z,⟨λu=>?_,hs.defers,hs.size,f⟩,.dW hz⟩;rw[show(st.setObj s g ⟨o.sz,es⟩).get u=st.get u from rfl];exact aQ.mono hz (hs.aY u)
end
def Ou(rs:List (Nat × Option Nat))(d:RV)(ex:Exit)(s:St):Prop:=∃ f,aA s f/\iD rs d ex f
def Sp.uV{P:Program}{f:FuncId}{args:List PV}{res:RV}{n np:Nat}{b:GC}{rs:List (Nat × Option Nat)}(p:aP P f=some ⟨n,np,b.er,rs⟩)(hn:args.length<=n)(h:vm P n (Ou rs res) [.code b] (vy args)):Sp P f args res:=by
 obtain⟨ex,y,u,s,r,j⟩:=lL _ (dE _) h;have key:(ex=.ret\/ex=.normal)/\∃ vs,oF s rs=some vs/\kO s (dD vs) res:=by
  cases ex with
  | ret=>exact⟨.inl rfl,j⟩
  | normal=>exact⟨.inr rfl,j⟩
  | _=>exact j.elim
 obtain⟨t,vs,x,d⟩:=key;refine Sp.gG p hn (cU.sU u r) t x ?_;unfold kO at d;split at d
 .exact .pure _ _ d
 .split at d
  .rename_i sz es s' g off len i;obtain⟨o,k,rfl,l,rfl,m⟩:=d;rw[i];exact .fresh _ _ _ _ _ k l m
  .rename_i i;rw[i,d];exact .nil _
  .exact d.elim
 .exact d.elim
def wS:PV:=.agg [.fn 193 [],.fn 195 [],.fn 196 [],.fn 198 [],.fn 200 [],.fn 202 [],.fn 203 [],.fn 204 [],.fn 206 []]
def Bk:PV:=.agg [.fn 234 [],.fn 236 [],.fn 237 [],.fn 239 [],.fn 241 [],.fn 243 [],.fn 203 [],.fn 245 [],.fn 248 []]
def DB(x:PV):PV:=.agg [.fn 218 [],.fn 195 [],.fn 196 [],.fn 222 [x],.fn 200 [],.fn 278 [.ref (.fn 196 [])],.fn 221 [],.fn 204 [],.fn 223 [x]]
def DE(x:PV):PV:=.agg [.fn 207 [],.fn 208 [],.fn 209 [],.fn 210 [],.fn 212 [],.fn 278 [.ref (.fn 209 [])],.fn 211 [],.fn 213 [],.fn 216 [x]]
def bR(x:PV):PV:=.agg [.fn 224 [],.fn 225 [],.fn 226 [],.fn 227 [],.fn 228 [],.fn 278 [.ref (.fn 226 [])],.fn 203 [],.fn 229 [],.fn 232 [x]]
def tB:PV:=.agg [.fn 218 [],.fn 195 [],.fn 196 [],.any,.fn 200 [],.fn 278 [.ref (.fn 196 [])],.fn 221 [],.fn 204 [],.any]
def Bu:PV:=.agg [.fn 207 [],.fn 208 [],.fn 209 [],.fn 210 [],.fn 212 [],.fn 278 [.ref (.fn 209 [])],.fn 211 [],.fn 213 [],.any]
def Bh:PV:=.agg [.fn 224 [],.fn 225 [],.fn 226 [],.fn 227 [],.fn 228 [],.fn 278 [.ref (.fn 226 [])],.fn 203 [],.fn 229 [],.any]
def Bs:PV:=DB (.ref tB)
def Bv:PV:=DE (.ref Bu)
def Bi:PV:=bR (.ref Bh)
def MX:zS 163 [] wS:=by refine Sp.vz c.gv λ_=>?_;simp[g.gv,wS]
def V6:zS 167 [] Bk:=by refine Sp.vz c.o5 λ_=>?_;simp[g.o5,Bk]
def KX(f:FuncId):zS 215 [.fn f []] (.fn 278 [.ref (.fn f [])]):=by refine Sp.vz c.ig λ_=>?_;simp[g.ig,bH]
def Vz:zS 165 [] Bs:=by
 refine Sp.uV c.oy (by simp) ?_;simp[g.oy];refine bA MX rfl ?_;simp[wS];refine bA (KX 196) rfl ?_;simp;refine⟨_,aA.pG (s:=1) (g:=0) [.p tB] rfl rfl (by simp[tB]) ?_,?_⟩
 .simp[tB,yi,AV.cells]<;>decide
 simp[bH,iD,kO,oF,BJ,dD,Bs,DB,St.setObj]
def yca:zS 164 [] Bv:=by
 refine Sp.uV c.ox (by simp) ?_;simp[g.ox];refine bA (KX 209) rfl ?_;simp;refine⟨_,aA.pG (s:=1) (g:=0) [.p Bu] rfl rfl (by simp[Bu]) ?_,?_⟩
 .simp[Bu,yi,AV.cells]<;>decide
 simp[bH,iD,kO,oF,BJ,dD,Bv,DE,St.setObj]
def yet:zS 166 [] Bi:=by
 refine Sp.uV c.oz (by simp) ?_;simp[g.oz];refine bA (KX 226) rfl ?_;simp;refine⟨_,aA.pG (s:=1) (g:=0) [.p Bh] rfl rfl (by simp[Bh]) ?_,?_⟩
 .simp[Bh,yi,AV.cells]<;>decide
 simp[bH,iD,kO,oF,BJ,dD,Bi,bR,St.setObj]
def xI(k:Int):PV:=if k=1 then wS else if k=2 then Bv else if k=3 then Bs else if k=4 then Bi else Bk
def CE(k:Int)(d:1<=k/\k<=5):zS 123 [g6 k] (xI k):=by
 have:k=1\/k=2\/k=3\/k=4\/k=5:=by omega
 obtain rfl|rfl|rfl|rfl|rfl:=this
 .refine Sp.vz c.ak λ_=>?_;simp[g.ak];refine bA MX rfl ?_;simp[xI,wS]
 .refine Sp.vz c.ak λ_=>?_;simp[g.ak];refine bA yca rfl ?_;simp[xI,Bv,DE]
 .refine Sp.vz c.ak λ_=>?_;simp[g.ak];refine bA Vz rfl ?_;simp[xI,Bs,DB]
 .refine Sp.vz c.ak λ_=>?_;simp[g.ak];refine bA yet rfl ?_;simp[xI,Bi,bR]
 .refine Sp.vz c.ak λ_=>?_;simp[g.ak];refine bA V6 rfl ?_;simp[xI,Bk]
def PU(k:Int):zS 139 [g6 k] (.bool (decide (1<=k/\k<=5))):=by refine Sp.vz c.j4 λ_=>?_;simp[g.j4];refine⟨λh=>by simp[h],λh=>by simp[show ¬ 1<=k by omega]⟩
def YN(k:Int):zS 141 [g6 k] (.bool (!decide (1<=k/\k<=5))):=by refine Sp.vz c.j5 λ_=>?_;simp[g.j5];refine bA (PU k) rfl ?_;simp
def A8(r:aC):zS 98 [enc r] (.bool r.ok):=by
 refine Sp.vz c.bi λl=>?_;simp[g.bi];refine⟨λd=>⟨λi=>⟨λj=>?_,λj=>?_⟩,λi=>?_⟩,λd=>?_⟩
 .refine bA (ygm r.parts 141 [] (λk=>!decide (1<=k/\k<=5)) (by omega) λk _=>YN k) rfl ?_;have:r.ok = !(r.parts.any λk=>!decide (1<=k/\k<=5)):=by
   rw[Bool.eq_iff_iff];simp only[aC.ok,aX d,decide_eq_true_eq,Ny,List.any_eq_false];constructor
   .intro h x m;have:=h.2.2 x m;simp[this]
   .intro h;exact⟨by omega,by omega,λk f=>by have:=h k f;simpa using this⟩
  simp[this]
 .simp[aC.ok,d];intro h;omega
 .simp[aC.ok,d];intro h;omega
 .refine bA (PU r.kind) rfl ?_;by_cases f:1<=r.kind/\r.kind<=5
  .simp[f,aC.ok,d]
  .have:r.ok=false:=by simp only[aC.ok,bD d,decide_eq_false_iff_not];omega
   simp[f,this]
def Fm(w:GW)(q:aT)(c:Int)(i:Bool)(s:UInt64)(p:List aF)(ps:List GW):w=.mk q c i s p ps ↔ w.q=q/\w.cost=c/\w.inf=i/\w.set=s/\w.aR=p/\w.parts=ps:=by cases w;simp[GW.q,GW.cost,GW.inf,GW.set,GW.aR,GW.parts]
def OJ(w:GW)(i:w.sm 1048576):zS 193 [enc w] (.bool (decide (w.si 1))):=by
 refine Sp.vz c.gw λ_=>?_;simp[g.gw];refine bA (Mp w.q (i.q.mono (by omega))) rfl ?_;obtain f|f:=iK w.q.valid
 .simp[f];refine aW (CV w i (.mk w.q 0 false 0 [] [])) ?_;simp;rw[xZ,Fm];simp[f];exact⟨λ⟨a,b,c,d,e⟩=>⟨e,b,a,c,d⟩,λ⟨e,b,a,c,d⟩=>⟨a,b,c,d,e⟩⟩
 .have:¬ w.si 1:=λh=>by have:=(xZ.1 h).2.2.2.2.2;rw[f]at this;cases this
  simp[f,this]
def yau(w:GW)(i:w.sm 1048576):zS 234 [enc w] (.bool (decide (w.si 5))):=by
 refine Sp.vz c.ik λ_=>?_;simp[g.ik];refine bA (Qe w.aR i.aR (by have:=i.len;omega)) rfl ?_;by_cases f:bS w.aR
 .simp[f];refine aW (CV w i (.mk dP 0 false 0 w.aR [])) ?_;simp;rw[Aq,Fm];simp[f];exact⟨λ⟨a,b,c,d,e⟩=>⟨e,a,c,b,d⟩,λ⟨e,a,c,b,d⟩=>⟨a,b,c,d,e⟩⟩
 .have:¬ w.si 5:=λh=>f (Aq.1 h).2.2.2.2.2;simp[f,this]
def WQ(w:GW)(f:w.sm 1048576):zS 224 [enc w] (.bool (decide (w.si 4))):=by refine Sp.vz c.ep λ_=>?_;simp[g.ep];refine aW (CV w f (.mk dP 0 false w.set [] [])) ?_;simp;rw[Bf,Fm];simp;exact⟨λ⟨a,b,c,d,e⟩=>⟨e,a,c,b,d⟩,λ⟨e,a,c,b,d⟩=>⟨a,b,c,d,e⟩⟩
def yce(w:GW)(l:w.sm 1048576):zS 207 [enc w] (.bool (decide (w.si 2))):=by
 refine Sp.vz c.d7 λ_=>?_;simp[g.d7];have j:¬ (0<=w.cost/\w.cost<=1099511627776/\(w.inf=true->w.cost=0))->¬ w.si 2:=λh f=>h (pY.1 f).2.2.2.2;refine⟨λk=>⟨λf=>?_,λf=>?_⟩,λk=>?_⟩
 .obtain hi|hi:=iK w.inf
  .simp[hi];refine⟨λi=>?_,λi=>j (λh=>i (h.2.2 hi))⟩;refine bA (CV w l (.mk dP w.cost true 0 [] [])) (by simp[hi]) ?_;simp;rw[pY,Fm];simp[hi,i];exact⟨λ⟨a,b,c,d⟩=>⟨d,a,b,c⟩,λ⟨d,a,b,c⟩=>⟨a,b,c,d⟩⟩
  .simp[hi];refine bA (CV w l (.mk dP w.cost false 0 [] [])) (by simp[hi]) ?_;simp;rw[pY,Fm];simp[hi,k,f];exact⟨λ⟨a,b,c,d⟩=>⟨d,a,b,c⟩,λ⟨d,a,b,c⟩=>⟨a,b,c,d⟩⟩
 .exact j (by omega)
 .exact j (by omega)
def yew:zS 267 [g6 1,g6 1] (.bM [enc (cR 1),g6 0]):=by have h:=yac 1 1 (by omega) (by omega);have d:Rat.divInt 1 1=1:=rfl;simp[d]at h;exact h
def MF:zS 197 [g6 1] (enc (.mk (cR 1) 0 false 0 [] []:GW)):=by refine Sp.vz c.g9 λ_=>?_;simp[g.g9];refine bA yew rfl ?_;simp
def Zu{x y:Rat}:x<y ↔ (x - y).num<0:=by
 rw[Rat.lt_iff_sub_pos];have:(x - y) = -(y - x):=by rw[Rat.neg_sub]
 rw[this,Rat.neg_num];have d:0<=y - x ↔ 0<=(y - x).num:=Rat.num_nonneg.symm;have f:(y - x)=0 ↔ (y - x).num=0:=Rat.num_eq_zero.symm;rw[Rat.lt_iff_le_and_ne,d,ne_comm,Ne,f];omega
def ya8(x y:Rat):(x - y).num = -(y - x).num:=by
 have:(x - y) = -(y - x):=by rw[Rat.neg_sub]
 rw[this,Rat.neg_num]
def SR{x y:Rat}:0<kM (x - y) ↔ y<x:=by rw[Zu];have:=ya8 x y;unfold kM;(repeat' split)<;>omega
def ZW{x y:Rat}:kM (x - y)<=0 ↔ x<=y:=by rw[<- Rat.not_lt,<- SR];omega
def ybt(w:GW)(j:w.sm 1048576):zS 218 [enc w] (.bool (decide (w.si 3))):=by
 refine Sp.vz c.ef λ_=>?_;simp[g.ef];refine bA MX rfl ?_;simp[wS];refine aW (OJ w j) ?_;have k:w.si 3 ↔ w.si 1/\0<=w.q.v/\w.q.v<=1:=by rw[wP,xZ];exact⟨λ⟨a,b,c,d,e,f,g,h⟩=>⟨⟨a,b,c,d,e,f⟩,g,h⟩,λ⟨⟨a,b,c,d,e,f⟩,g,h⟩=>⟨a,b,c,d,e,f,g,h⟩⟩
 by_cases i:w.si 1
 .simp[i];refine bA (Iq w.q (j.q.mono (by omega))) rfl ?_;simp;refine⟨λl=>?_,λl=>?_⟩
  .refine bA MF rfl ?_;simp;refine bA (Rp w.q (cR 1) j.q (D8.mono (by omega))) rfl ?_;simp;rw[kW];have m:=I6.1 l;rw[ZW,k];simp[i,m]
  .have:¬ 0<=w.q.v:=λh=>by have:=I6.2 h;omega
   simp[k,this]
 .simp[k,i]
def mP(k:Int):GW:=.mk dP 0 (decide (k=2)) 0 [] []
def aC.zero(r:aC):GW:=if r.ok then .mk dP 0 (decide (r.kind=2)) 0 [] (r.parts.map mP)else Dy
def yd6(r:aC)(h:r.parts=[]):zS 23 [enc r] (enc r.zero):=by
 refine Sp.vz c.ba λ_=>?_;simp[g.ba];refine bA (oG r) rfl ?_;obtain d|d:=iK r.ok;rotate_left
 .simp[d,aC.zero,Dy]
 simp[d];refine jT λR i j f=>?_;simp[g.td,h];refine f _ _ ?_;simp[d,aC.zero,h]
def F2(r:aC):zS 23 [enc r] (enc r.zero):=by
 refine Sp.vz c.ba λ_=>?_;simp[g.ba];refine bA (oG r) rfl ?_;obtain d|d:=iK r.ok;rotate_left
 .simp[d,aC.zero,Dy]
 simp[d]
 refine b6 (S:=λk:Nat=>aB [(1,i0 1),(2,i0 2),(3,i0 3),(4,f8 k)]
   [(1,⟨2,[.p (enc r)]⟩),(2,⟨8,[.agg [i4 false,.nil,.nil,f8 0,i4 false,.p (.int .u64 0),.nil,.nil]]⟩),
    (3,⟨8,[.agg [i4 false,.nil,.nil,f8 0,i4 (decide (r.kind=2)),.p (.int .u64 0),.nil,.own 4 0 0 k]]⟩),(4,⟨8,aK ((r.parts.map mP).take k)⟩)])
  (I:=λk=>k<=r.parts.length) (m:=λk=>r.parts.length - k) 0
  ((aA.b5 (s0:=3) (g0:=0) (i:=7) (s:=77) (sz:=8) rfl).trans (aA.to [1,2,3,4] [((1,0),1),((2,0),2),((3,0),3),((77,0),4)] (by simp))) (by omega) ?_
 rintro k C R u D y;have n:r.parts.length<=3:=by
  by_cases f:r.kind=6
  .exact(aC.bQ d f).2.1
  .simp[(aC.cJ d f).2.2]
 have o:=aZ k;simp[g.td,aB];refine⟨λh=>?_,λh=>y _ _ ?_⟩
 .have f:r.kind=6:=by
   by_cases f:r.kind=6
   .exact f
   .have:=(aC.cJ d f).2.2;rw[this]at h;simp at h
  have l:=(aC.bQ d f).2.2 _ (bU h);refine bA (FZ r k h) rfl ?_;simp;refine bA (yd6 ⟨r.parts[k],[]⟩ rfl) rfl ?_;have z:(⟨r.parts[k],[]⟩:aC).zero=mP r.parts[k]:=by
   have t:r.parts[k]≠6:=by omega
   simp[aC.zero,aC.ok,t,l,mP]
  have j:k<(r.parts.map mP).length:=by simpa using h
  rw[z];simp[o];refine⟨by omega,u (k+1) _ (aA.to [1,2,3,4] [((1,0),1),((2,0),2),((3,0),3),((28,0),4)] (by simp[ed j,sR])) (by omega) (by omega)⟩
 .have:k=r.parts.length:=by omega
  subst this;have x:(r.parts.map mP).take r.parts.length=r.parts.map mP:=by rw[eZ (by simp)]
  simp[d,aC.zero];simp only[x]
def Gm(r:aC)(w:GW)(d:w.sm 1048576):zS 31 [enc r,enc w] (.bool (decide (w=r.zero))):=by refine Sp.vz c.ch λ_=>?_;simp[g.ch];refine aW (F2 r) ?_;simp;refine aW (Iy w d r.zero) ?_;simp
noncomputable def GW.tk(r:aC)(w:GW):GW:=if w.aJ r then w else r.zero
def L8:dP.valid=true:=by have:=vD 0;rw[yA]at this;exact this
def Dn{k:Int}{w:GW}(h:w.si k):w.q.valid=true:=by
 by_cases d:k=1
 .exact h.2.2.2.2.2.1 d
 .by_cases f:k=3
  .exact(h.2.2.2.2.2.2.2.1 f).1
  .rw[h.2.1 d f];exact L8
def jJ{k:Int}{w:GW}(h:w.si k):bS w.aR:=by
 by_cases d:k=5
 .exact h.2.2.2.2.2.2.2.2 d
 .rw[h.2.2.2.2.1 d];exact D1
def TS{r:aC}{w:GW}(h:w.aJ r):w.q.valid=true:=by
 by_cases d:r.kind=6
 .have:=(h.2.2 d).2.1;rw[this];exact L8
 .exact Dn (h.2.1 d)
def BA{r:aC}{w:GW}(h:w.aJ r):bS w.aR:=by
 by_cases d:r.kind=6
 .have:=(h.2.2 d).2.1;rw[this];exact D1
 .exact jJ (h.2.1 d)
def tO{k:Int}(h:1<=k/\k<=5):(⟨k,[]⟩:aC).ok=true:=by
 have d:k≠6:=by omega
 simp[aC.ok,d,h]
def CN{r:aC}{w:GW}(h:w.aJ r)(f:r.kind=6){i:Nat}(j:i<r.parts.length)(d:i<w.parts.length):w.parts[i].aJ ⟨r.parts[i],[]⟩:=by have l:=(aC.bQ h.1 f).2.2 _ (bU j);refine⟨tO l,λ_=>(h.2.2 f).2.2 i j d,λk=>?_⟩;simp at k;omega
def yef(r:aC)(w:GW)(f:w.sm 1048576)(h:w.parts=[]):zS 82 [enc r,enc w] (enc (w.tk r)):=by
 refine Sp.vz c.an λ_=>?_;simp[g.an];refine aW (F8 r w f) ?_;by_cases d:w.aJ r;rotate_left
 .simp[d,GW.tk];refine aW (F2 r) ?_;simp
 simp[d,GW.tk];refine bA (zV w.q (f.q.mono (by omega))) rfl ?_;rw[sx (TS d)];simp;refine bA (Ee w.aR f.aR (by have:=f.len;omega)) rfl ?_;rw[zG (BA d)];simp;refine jT λR j k i=>?_;simp[g.tu,h];refine i _ _ ?_;simp[h]
def lQ(r:aC)(w:GW)(n:w.sm 1048576):zS 82 [enc r,enc w] (enc (w.tk r)):=by
 refine Sp.vz c.an λ_=>?_;simp[g.an];refine aW (F8 r w n) ?_;by_cases d:w.aJ r;rotate_left
 .simp[d,GW.tk];refine aW (F2 r) ?_;simp
 simp[d,GW.tk];refine bA (zV w.q (n.q.mono (by omega))) rfl ?_;rw[sx (TS d)];simp;refine bA (Ee w.aR n.aR (by have:=n.len;omega)) rfl ?_;rw[zG (BA d)];simp
 refine b6 (S:=λk:Nat=>aB [(2,i0 1),(3,i0 2),(4,i0 3),(5,i0 4),(6,f8 k)]
   [(1,⟨2,[.p (enc r)]⟩),(2,⟨8,[.p (enc w)]⟩),(3,⟨8,[.agg [i4 false,.nil,.nil,f8 0,i4 false,.p (.int .u64 0),.nil,.nil]]⟩),
    (4,⟨8,[.agg [i4 w.q.neg,hW w.q.num,hW w.q.den,f8 w.cost,i4 w.inf,.p (.int .u64 w.set.toNat),hW w.aR,.own 5 0 0 k]]⟩),(5,⟨8,aK (w.parts.take k)⟩)])
  (I:=λk=>k<=w.parts.length) (m:=λk=>w.parts.length - k) 0
  ((aA.b5 (s0:=5) (g0:=0) (i:=7) (s:=77) (sz:=8) rfl).trans (aA.to [2,3,4,5,6] [((2,0),1),((3,0),2),((4,0),3),((5,0),4),((77,0),5)] (by simp))) (by omega) ?_
 rintro k D R y F C;have u:=n.uU;have x:=aZ k;simp[g.tu,aB];refine⟨λf=>?_,λf=>C _ _ ?_⟩
 .have l:r.kind=6:=by
   by_cases l:r.kind=6
   .exact l
   .have:=(d.2.1 l).1;rw[this]at f;simp at f
  have E:=(d.2.2 l).1;have h:k<r.parts.length:=by omega
  refine bA (FZ r k h) rfl ?_;simp;refine bK f ?_;have j:=CN d l h f;have o:w.parts[k].parts=[]:=((d.2.2 l).2.2 k h f).1;refine aW (yef ⟨r.parts[k],[]⟩ w.parts[k] (n.parts _ (bU f)) o) ?_;have z:w.parts[k].tk ⟨r.parts[k],[]⟩=w.parts[k]:=aX j;rw[z];have t:aK (w.parts.take (k+1))=aK (w.parts.take k)++[.p (enc w.parts[k])]:=by rw[ed f,sR];rfl
  simp[x];refine⟨by omega,y (k+1) _ (aA.to [2,3,4,5,6] [((1,0),1),((2,0),2),((3,0),3),((4,0),4),((45,0),5)] (by simp[t])) (by omega) (by omega)⟩
 .have:k=w.parts.length:=by omega
  subst this;simp
def kF(a b c d e:FuncId)(k:Int):FuncId:=if k=1 then a else if k=2 then b else if k=3 then c else if k=4 then d else e
def UR:=kF 193 207 218 224 234
def UQ:=kF 195 208 195 225 236
def UP:=kF 196 209 196 226 237
def UO:=kF 198 210 222 227 239
def US(k:Int):List PV:=if k=3 then[.ref tB]else[]
def UN:=kF 200 212 200 228 241
def ym(k:Int)(l:1<=k/\k<=5):∃ h f6 i j d f,xI k=.agg [.fn (UR k) [],.fn (UQ k) [],.fn (UP k) [],.fn (UO k) (US k),.fn (UN k) [],.fn h d,.fn f6 [],.fn i [],.fn j f]:=by
 have:k=1\/k=2\/k=3\/k=4\/k=5:=by omega
 obtain rfl|rfl|rfl|rfl|rfl:=this<;>exact⟨_,_,_,_,_,_,rfl⟩
def R3(k:Int)(f:1<=k/\k<=5)(w:GW)(d:w.sm 1048576):Sp P (UR k) [enc w] (.pure (.bool (decide (w.si k)))):=by
 have:k=1\/k=2\/k=3\/k=4\/k=5:=by omega
 obtain rfl|rfl|rfl|rfl|rfl:=this
 .exact OJ w d
 .exact yce w d
 .exact ybt w d
 .exact WQ w d
 .exact yau w d
def OK:zS 195 [] (enc (.mk dP 0 false 0 [] []:GW)):=by refine Sp.vz c.bv λ_=>?_;simp[g.bv]
def Wi:zS 225 [] (enc (.mk dP 0 false 0 [] []:GW)):=by refine Sp.vz c.eq λ_=>?_;simp[g.eq]
def yat:zS 236 [] (enc (.mk dP 0 false 0 [] []:GW)):=by refine Sp.vz c.im λ_=>?_;simp[g.im]
def ycd:zS 208 [] (enc (.mk dP 0 true 0 [] []:GW)):=by refine Sp.vz c.d8 λ_=>?_;simp[g.d8]
def O'(k:Int)(d:1<=k/\k<=5):Sp P (UQ k) [] (.pure (enc (mP k))):=by
 have:k=1\/k=2\/k=3\/k=4\/k=5:=by omega
 obtain rfl|rfl|rfl|rfl|rfl:=this
 .exact OK
 .exact ycd
 .exact OK
 .exact Wi
 .exact yat
def HC(r:aC)(hp:∀ k∈r.parts,1<=k/\k<=5)(M:r.parts.length<=3)(f:FuncId)(j:List PV)(d:List GW)(O:d.length=r.parts.length)
  (y:∀ i,(h:i<r.parts.length)->(J:i<d.length)->Sp P f (xI r.parts[i]::g6 i::j) (.pure (enc d[i]))) :
  zS 124 [enc r,.fn f j] (enc (.mk dP 0 false 0 [] d:GW)):=by
 refine Sp.vz c.dz λ_=>?_;simp[g.dz]
 refine b6 (S:=λk:Nat=>aB [(1,.p (.fn f j)),(4,i0 1),(5,i0 2),(9,hW r.parts),(10,f8 r.parts.length),(11,f8 k)]
   [(1,⟨8,[.agg [i4 false,.nil,.nil,f8 0,i4 false,.p (.int .u64 0),.nil,.nil]]⟩),
    (2,⟨8,[.agg [i4 false,.nil,.nil,f8 0,i4 false,.p (.int .u64 0),.nil,.own 3 0 0 k]]⟩),(3,⟨8,aK (d.take k)⟩)])
  (I:=λk=>k<=r.parts.length) (m:=λk=>r.parts.length - k) 0
  ((aA.b5 (s0:=5) (g0:=0) (i:=7) (s:=77) (sz:=8) rfl).trans (aA.to [1,4,5,9,10,11] [((4,0),1),((5,0),2),((77,0),3)] (by simp))) (by omega) ?_
 rintro k L R z Q C;have x:=aZ k;simp[g.wc,aB];refine⟨λn=>?_,λn=>C _ _ ?_⟩
 .have o:k<d.length:=by omega
  refine bK n ?_
  try simp
  refine bA (CE r.parts[k] (hp _ (bU n))) rfl ?_;obtain⟨F,f6,G,H,D,E,u⟩:=ym r.parts[k] (hp _ (bU n));have l:=y k n o;rw[u]at l;simp[u];refine bA l (kX rfl (kX rfl (yn _ _))) ?_;have t:aK (d.take (k+1))=aK (d.take k)++[.p (enc d[k])]:=by rw[ed o,sR];rfl
  simp[x];exact⟨⟨by omega,by omega⟩,z (k+1) _ (aA.to [1,4,5,9,10,11] [((1,0),1),((2,0),2),((24,0),3)] (by simp[t])) (by omega) (by omega)⟩
 .have:k=d.length:=by omega
  subst this;simp
def Yd(k:Int)(d:1<=k/\k<=5)(i:Int):zS 126 [xI k,g6 i] (enc (mP k)):=by obtain⟨l,f6,m,n,h,j,f⟩:=ym k d;rw[f];refine Sp.vz c.jy λ_=>?_;simp[g.jy];refine bA (O' k d) rfl ?_;simp
def wG(r:aC):zS 75 [enc r] (enc r.zero):=by
 refine Sp.vz c.bh λ_=>?_;simp[g.bh];refine bA (A8 r) rfl ?_;obtain d|d:=iK r.ok;rotate_left
 .simp[d,aC.zero,Dy]
 simp[d];refine⟨λj=>?_,λj=>?_⟩
 .have k:=aC.bQ d j;refine bA (HC r k.2.2 k.2.1 126 [] (r.parts.map mP) (by simp) λi h t=>by simpa using Yd r.parts[i] (k.2.2 _ (List.getElem_mem h)) i) rfl ?_;simp[d,aC.zero,j]
 .have f:=aC.cJ d j;obtain⟨o,f6,p,s,m,n,l⟩:=ym r.kind ⟨f.1,f.2.1⟩;refine bA (CE r.kind ⟨f.1,f.2.1⟩) rfl ?_;simp[l];refine bA (O' r.kind ⟨f.1,f.2.1⟩) rfl ?_;simp[d,aC.zero,f.2.2,mP]
def F9(r:aC)(w:GW)(z:w.sm 1048576):zS 100 [enc r,enc w] (.bool (decide (w.aJ r))):=by
 refine Sp.vz c.db λ_=>?_;simp[g.db];refine bA (A8 r) rfl ?_;obtain d|d:=iK r.ok;rotate_left
 .simp[d,GW.aJ]
 simp[d];refine⟨λj=>?_,λj=>?_⟩;rotate_left
 .have f:=aC.cJ d j;obtain⟨G,f6,H,J,D,E,t⟩:=ym r.kind ⟨f.1,f.2.1⟩;refine bA (CE r.kind ⟨f.1,f.2.1⟩) rfl ?_;simp[t];refine aW (R3 r.kind ⟨f.1,f.2.1⟩ w z) ?_;simp[GW.aJ,d,j]
 have O:=aC.bQ d j;refine⟨λL=>?_,λL h=>?_⟩;rotate_left
 .have:=(h.2.2 j).1;omega
 have y:w.parts.length=r.parts.length:=by omega
 refine aW (CV w z (.mk dP 0 false 0 [] w.parts)) ?_;simp;refine⟨λu=>?_,λu h=>u (h.2.2 j).2.1⟩
 refine b6 (S:=λk:Nat=>aB [(3,i0 1),(35,hW r.parts),(36,f8 r.parts.length),(37,f8 k)] [(1,⟨8,[.p (enc w)]⟩)]) (I:=λk=>k<=r.parts.length/\∀ i,(h:i<r.parts.length)->(o:i<w.parts.length)->i<k->w.parts[i].si r.parts[i]) (m:=λk=>r.parts.length - k) 0
  (aA.to [3,35,36,37] [((3,0),1)] (by simp)) ⟨by omega,λi h o V=>by omega⟩ ?_
 rintro k ⟨W,C⟩ R M Q U;have F:=aZ k;simp[g.vk,aB];refine⟨λf=>?_,λf=>U _ _ ?_⟩
 .have l:k<w.parts.length:=by omega
  have n:=O.2.2 _ (bU f);obtain⟨G,f6,H,J,D,E,t⟩:=ym r.parts[k] n;refine bK f ?_
  try simp
  refine bA (CE r.parts[k] n) rfl ?_;simp[t];refine bK l ?_
  try simp
  refine aW (R3 r.parts[k] n w.parts[k] (z.parts _ (bU l))) ?_;by_cases s:w.parts[k].si r.parts[k]
  .simp[s,F];refine M (k+1) _ (aA.to [3,35,36,37] [((1,0),1)] (by simp)) ⟨by omega,λi h o X=>?_⟩ (by omega);by_cases x:i<k
   .exact C i h o x
   .have:i=k:=by omega
    subst this;exact s
  .simp[s];refine Q _ ?_;have:¬ w.aJ r:=λh=>s ((h.2.2 j).2.2 k f l);simp[this]
 .have:w.aJ r:=⟨d,λh=>absurd j h,λ_=>⟨y,u,λi h o=>C i h o (by omega)⟩⟩;simp[this]
def B3(r:aC)(w:GW)(f:w.sm 1048576):zS 122 [enc r,enc w] (enc (w.tk r)):=by
 refine Sp.vz c.jw λ_=>?_;simp[g.jw];refine aW (F9 r w f) ?_;by_cases d:w.aJ r
 .simp[d,GW.tk]
 .simp[d,GW.tk];refine aW (wG r) ?_;simp
def dA(k:Int)(ps:List GW):GW:=.mk (if k=1\/k=3 then cR 1 else dP) 0 false (if k=4 then 18446744073709551615 else 0) (if k=5 then yd 1 else[]) ps
def aC.one(r:aC):GW:=if r.ok then dA r.kind (r.parts.map λk=>dA k [])else Dy
def Zw:zS 22 [enc (⟨1,[]⟩:aC)] (enc (dA 1 [])):=by have h:Rat.divInt 1 1=1:=rfl;have d:=Cy 1 1 (by omega) (by omega) (by omega);rw[h]at d;have f:(⟨1,[]⟩:aC).ok=true:=tO (by omega);refine Sp.vz c.ae λ_=>?_;simp[g.ae];refine bA (oG ⟨1,[]⟩) rfl ?_;simp[f];refine bA d rfl ?_;simp;refine jT λR j k i=>?_;simp[g.qn];refine i _ _ ?_;simp[dA]
def Zx:zS 22 [enc (⟨2,[]⟩:aC)] (enc (dA 2 [])):=by have h:Rat.divInt 1 1=1:=rfl;have d:=Cy 1 1 (by omega) (by omega) (by omega);rw[h]at d;have f:(⟨2,[]⟩:aC).ok=true:=tO (by omega);refine Sp.vz c.ae λ_=>?_;simp[g.ae];refine bA (oG ⟨2,[]⟩) rfl ?_;simp[f];refine jT λR j k i=>?_;simp[g.qn];refine i _ _ ?_;simp[dA]
def Zy:zS 22 [enc (⟨3,[]⟩:aC)] (enc (dA 3 [])):=by have h:Rat.divInt 1 1=1:=rfl;have d:=Cy 1 1 (by omega) (by omega) (by omega);rw[h]at d;have f:(⟨3,[]⟩:aC).ok=true:=tO (by omega);refine Sp.vz c.ae λ_=>?_;simp[g.ae];refine bA (oG ⟨3,[]⟩) rfl ?_;simp[f];refine bA d rfl ?_;simp;refine jT λR j k i=>?_;simp[g.qn];refine i _ _ ?_;simp[dA]
def Zz:zS 22 [enc (⟨4,[]⟩:aC)] (enc (dA 4 [])):=by have h:Rat.divInt 1 1=1:=rfl;have d:=Cy 1 1 (by omega) (by omega) (by omega);rw[h]at d;have f:(⟨4,[]⟩:aC).ok=true:=tO (by omega);refine Sp.vz c.ae λ_=>?_;simp[g.ae];refine bA (oG ⟨4,[]⟩) rfl ?_;simp[f];refine jT λR j k i=>?_;simp[g.qn];refine i _ _ ?_;simp[dA]
def ZA:zS 22 [enc (⟨5,[]⟩:aC)] (enc (dA 5 [])):=by have h:Rat.divInt 1 1=1:=rfl;have d:=Cy 1 1 (by omega) (by omega) (by omega);rw[h]at d;have f:(⟨5,[]⟩:aC).ok=true:=tO (by omega);refine Sp.vz c.ae λ_=>?_;simp[g.ae];refine bA (oG ⟨5,[]⟩) rfl ?_;simp[f];refine bA d rfl ?_;simp;refine bA (Vr (cR 1) (D8.mono (by omega))) rfl ?_;simp;refine jT λR j k i=>?_;simp[g.qn];refine i _ _ ?_;simp[dA,yd,kW]
def Ue(k:Int)(d:1<=k/\k<=5):zS 22 [enc (⟨k,[]⟩:aC)] (enc (dA k [])):=by
 have:k=1\/k=2\/k=3\/k=4\/k=5:=by omega
 obtain rfl|rfl|rfl|rfl|rfl:=this
 .exact Zw
 .exact Zx
 .exact Zy
 .exact Zz
 .exact ZA
def HQ(r:aC):zS 22 [enc r] (enc r.one):=by
 obtain d|d:=iK r.ok;rotate_left
 .refine Sp.vz c.ae λ_=>?_;simp[g.ae];refine bA (oG r) rfl ?_;simp[d,aC.one,Dy]
 by_cases h:r.kind=6;rotate_left
 .have f:=aC.cJ d h;have x:r=⟨r.kind,[]⟩:=by rw[<- f.2.2]
  have j:r.one=dA r.kind []:=by simp[aC.one,d,f.2.2]
  rw[j,x];exact Ue r.kind ⟨f.1,f.2.1⟩
 have z:=aC.bQ d h;refine Sp.vz c.ae λ_=>?_;simp[g.ae];refine bA (oG r) rfl ?_;simp[d,h]
 refine b6 (S:=λk:Nat=>aB [(1,i0 1),(2,i0 2),(3,i0 3),(4,f8 k)]
   [(1,⟨2,[.p (enc r)]⟩),(2,⟨8,[.agg [i4 false,.nil,.nil,f8 0,i4 false,.p (.int .u64 0),.nil,.nil]]⟩),
    (3,⟨8,[.agg [i4 false,.nil,.nil,f8 0,i4 false,.p (.int .u64 0),.nil,.own 4 0 0 k]]⟩),(4,⟨8,aK ((r.parts.map λk=>dA k []).take k)⟩)])
  (I:=λk=>k<=r.parts.length) (m:=λk=>r.parts.length - k) 0
  ((aA.b5 (s0:=3) (g0:=0) (i:=7) (s:=77) (sz:=8) rfl).trans (aA.to [1,2,3,4] [((1,0),1),((2,0),2),((3,0),3),((77,0),4)] (by simp[h]))) (by omega) ?_
 rintro k j R y D C;have u:=aZ k;simp[g.qn,aB];refine⟨λf=>?_,λf=>C _ _ ?_⟩
 .have n:=z.2.2 _ (List.getElem_mem f);refine bA (FZ r k f) rfl ?_;simp;refine bA (Ue r.parts[k] n) rfl ?_;have l:k<(r.parts.map λk=>dA k []).length:=by simpa using f
  have o:aK ((r.parts.map λk=>dA k []).take (k+1))=aK ((r.parts.map λk=>dA k []).take k)++[.p (enc (dA r.parts[k] []))]:=by rw[ed l,sR];simp<;>rfl
  simp[u];exact⟨⟨(uN j).symm,by omega⟩,y (k+1) _ (aA.to [1,2,3,4] [((1,0),1),((2,0),2),((3,0),3),((39,0),4)] (by simp[o])) (by omega) (by omega)⟩
 .have:k=r.parts.length:=by omega
  subst this;have t:(r.parts.map λk=>dA k []).take r.parts.length=r.parts.map λk=>dA k []:=by rw[eZ (by simp)]
  simp[d,h,aC.one,dA];simp only[dA]at t;simp only[t]
def RF(p q:List GW)(E:p.length<=1073741824)(hp:∀ w∈p,w.sm 1048576):zS 38 [.sl (ens p),.sl (ens q)] (.bool (decide (p=q))):=by
 refine Sp.vz c.mm λ_=>?_;simp[g.mm];refine⟨λh=>?_,λh=>λx=>h (by rw[x])⟩;have f:p.length=q.length:=by omega
 refine b6 (S:=λk:Nat=>aB [(0,hW p),(1,hW q),(5,f8 k)] []) (I:=λk=>k<=p.length/\p.take k=q.take k) (m:=λk=>p.length - k) 0
  (aA.to [0,1,5] [] (by simp)) ⟨by omega,by simp⟩ ?_
 rintro k ⟨D,o⟩ R y z C;have r:=aZ k;simp[g.uz,aB];refine⟨λj=>?_,λj=>C _ _ ?_⟩
 .have d:k<q.length:=by omega
  have n:p[k]≠q[k]->p≠q:=λh s=>by subst s;exact h rfl
  refine bK j ?_;refine bK d ?_;refine aW (Iy p[k] (hp _ (bU j)) q[k]) ?_;by_cases i:p[k]=q[k]
  .simp[i,r];exact y (k+1) _ (aA.to [0,1,5] [] (by simp)) ⟨by omega,by rw[ed j,ed d,o,i]⟩ (by omega)
  .have u:p≠q:=n i;simp[i];exact z _ (by simp[u])
 .have t:p=q:=by rw[<- List.take_length (l:=p),<- List.take_length (l:=q),<- f,show p.length=k by omega];exact o
  simp[t]
def O5(x y:UInt64):Fi .u64 x.toNat y.toNat=((x ||| y).toNat:Int):=by rw[KG x.toNat_lt y.toNat_lt,UInt64.toNat_or]
def fj(k:Int)(v w:GW):GW :=
 if k=1 then .mk (cR (v.q.v+w.q.v)) 0 false 0 [] []
 else if k=2 then if v.inf=true\/(w.inf=false/\w.cost<v.cost)then w else v
 else if k=3 then if v.q.v<w.q.v then w else v
 else if k=4 then .mk dP 0 false (v.set ||| w.set) [] []
 else .mk dP 0 false 0 (eN v.aR w.aR) []
def yfk(v w:GW)(f:v.sm 1048576)(h:w.sm 1048576)(k:v.aJ ⟨1,[]⟩)(l:w.aJ ⟨1,[]⟩):zS 130 [enc (⟨1,[]⟩:aC),enc v,enc w] (enc (fj 1 v w)):=by have d:(⟨1,[]⟩:aC).ok=true:=tO (by omega);have m:v.tk ⟨1,[]⟩=v:=aX k;have n:w.tk ⟨1,[]⟩=w:=aX l;have i:=lQ ⟨1,[]⟩ v f;have j:=lQ ⟨1,[]⟩ w h;rw[m]at i;rw[n]at j;refine Sp.vz c.ah λ_=>?_;simp[g.ah];refine bA (oG ⟨1,[]⟩) rfl ?_;simp[d];refine aW i ?_;simp;refine aW j ?_;simp;refine bA (Kl v.q w.q f.q h.q) rfl ?_;simp[fj]
def yfj(v w:GW)(n:v.sm 1048576)(o:w.sm 1048576)(l:v.aJ ⟨2,[]⟩)(m:w.aJ ⟨2,[]⟩):zS 130 [enc (⟨2,[]⟩:aC),enc v,enc w] (enc (fj 2 v w)):=by
 have h:(⟨2,[]⟩:aC).ok=true:=tO (by omega);have p:v.tk ⟨2,[]⟩=v:=aX l;have r:w.tk ⟨2,[]⟩=w:=aX m;have j:=lQ ⟨2,[]⟩ v n;have k:=lQ ⟨2,[]⟩ w o;rw[p]at j;rw[r]at k;refine Sp.vz c.ah λ_=>?_;simp[g.ah];refine bA (oG ⟨2,[]⟩) rfl ?_;simp[h];refine aW j ?_;simp;refine aW k ?_;simp;obtain d|d:=iK v.inf
 .simp[fj,d]
 obtain f|f:=iK w.inf
 .simp[fj,d,f]
 simp[fj,d,f];refine⟨λi=>by simp[i,f],λi=>by simp[show ¬ w.cost<v.cost by omega,d]⟩
def yfi(v w:GW)(h:v.sm 1048576)(i:w.sm 1048576)(l:v.aJ ⟨3,[]⟩)(m:w.aJ ⟨3,[]⟩):zS 130 [enc (⟨3,[]⟩:aC),enc v,enc w] (enc (fj 3 v w)):=by
 have d:(⟨3,[]⟩:aC).ok=true:=tO (by omega);have n:v.tk ⟨3,[]⟩=v:=aX l;have o:w.tk ⟨3,[]⟩=w:=aX m;have j:=lQ ⟨3,[]⟩ v h;have k:=lQ ⟨3,[]⟩ w i;rw[n]at j;rw[o]at k;refine Sp.vz c.ah λ_=>?_;simp[g.ah];refine bA (oG ⟨3,[]⟩) rfl ?_;simp[d];refine aW j ?_;simp;refine aW k ?_;simp;refine bA (Tt v.q w.q h.q i.q) rfl ?_;by_cases f:v.q.v<w.q.v
 .simp[fj,f]
 .simp[fj,f]
def yfh(v w:GW)(k:v.sm 1048576)(l:w.sm 1048576)(i:v.aJ ⟨4,[]⟩)(j:w.aJ ⟨4,[]⟩):zS 130 [enc (⟨4,[]⟩:aC),enc v,enc w] (enc (fj 4 v w)):=by have d:(⟨4,[]⟩:aC).ok=true:=tO (by omega);have m:v.tk ⟨4,[]⟩=v:=aX i;have n:w.tk ⟨4,[]⟩=w:=aX j;have f:=lQ ⟨4,[]⟩ v k;have h:=lQ ⟨4,[]⟩ w l;rw[m]at f;rw[n]at h;refine Sp.vz c.ah λ_=>?_;simp[g.ah];refine bA (oG ⟨4,[]⟩) rfl ?_;simp[d];refine aW f ?_;simp;refine aW h ?_;simp;simp[fj,O5]
def yfg(v w:GW)(r:v.sm 1048576)(s:w.sm 1048576)(i:v.aJ ⟨5,[]⟩)(j:w.aJ ⟨5,[]⟩)(D B d:Nat)(o:lU D B v.aR)(p:lU D d w.aR)(f:D≠0)(l:D<4294967296^1048576)(k:B+d<4294967296^1048576):zS 130 [enc (⟨5,[]⟩:aC),enc v,enc w] (enc (fj 5 v w)):=by have t:=yhh v.aR w.aR D B d (BA i) (BA j) o p f l k;clear l k;have h:(⟨5,[]⟩:aC).ok=true:=tO (by omega);have u:v.tk ⟨5,[]⟩=v:=aX i;have x:w.tk ⟨5,[]⟩=w:=aX j;have m:=lQ ⟨5,[]⟩ v r;have n:=lQ ⟨5,[]⟩ w s;rw[u]at m;rw[x]at n;refine Sp.vz c.ah λ_=>?_;simp[g.ah];refine bA (oG ⟨5,[]⟩) rfl ?_;simp[h];refine aW m ?_;simp;refine aW n ?_;simp;refine bA t rfl ?_;simp[fj]
def yaj(v w:GW)(d:v.sm 1048576)(f:w.sm 1048576):zS 198 [enc v,enc w] (enc (fj 1 v w)):=by refine Sp.vz c.ia λ_=>?_;simp[g.ia];refine bA (FJ v.q w.q d.q f.q) rfl ?_;simp[fj]
def Wk(v w:GW):zS 227 [enc v,enc w] (enc (fj 4 v w)):=by refine Sp.vz c.eu λ_=>?_;simp[g.eu,fj,O5]
def yf6(v w:GW):zS 211 [enc v,enc w] (.bool (!v.inf&&(w.inf||decide (v.cost<w.cost)))):=by refine Sp.vz c.ee λ_=>?_;simp[g.ee];obtain d|d:=iK v.inf<;>obtain f|f:=iK w.inf<;>simp[d,f]
def ycc(v w:GW)(j:v.si 2)(k:w.si 2):zS 210 [enc v,enc w] (enc (fj 2 v w)):=by
 refine Sp.vz c.d9 λ_=>?_;simp[g.d9];refine aW (yf6 w v) ?_;obtain f|f:=iK v.inf
 .obtain d|d:=iK w.inf
  .have h:v=w:=by have a:=pY.1 j;have b:=pY.1 k;exact GW.ext (by rw[a.2.1,b.2.1]) (by rw[a.2.2.2.2.2.2 f,b.2.2.2.2.2.2 d]) (by rw[f,d]) (by rw[a.2.2.1,b.2.2.1]) (by rw[a.2.2.2.1,b.2.2.2.1]) (by rw[a.1,b.1])
   subst h;simp[f,fj]
  .simp[f,d,fj]
 .obtain d|d:=iK w.inf
  .simp[f,d,fj]
  .by_cases i:w.cost<v.cost
   .simp[f,d,i,fj]
   .simp[f,d,i,fj]
def ybs(v w:GW)(d:v.sm 1048576)(f:w.sm 1048576):zS 221 [enc v,enc w] (.bool (decide (w.q.v<v.q.v))):=by refine Sp.vz c.ii λ_=>?_;simp[g.ii];refine bA (Rp v.q w.q d.q f.q) rfl ?_;simp[SR]
def ybr(v w:GW)(f:v.sm 1048576)(i:w.sm 1048576)(k:v.si 3)(l:w.si 3):zS 222 [enc v,enc w,.ref tB] (enc (fj 3 v w)):=by
 refine Sp.fD c.ij (by simp) (aA.dV (t:=2) (v:=tB) (n:=9) (by simp) rfl) ?_;simp[g.ij,tB];refine aW (ybs w v i f) ?_;have key:∀ x:GW,x.si 3->x=.mk (cR x.q.v) 0 false 0 [] []:=λx j=>by have a:=wP.1 j;exact GW.ext (sx a.2.2.2.2.2.1).symm a.2.2.1 a.2.1 a.2.2.2.1 a.2.2.2.2.1 a.1
 have d:dP.v=0:=by rw[show dP=cR 0 from yA.symm,kW]
 by_cases h:v.q.v<w.q.v
 .have e:fj 3 v w=.mk (cR w.q.v) 0 false 0 [] []:=by simp only[fj,h,cH];exact key w l
  rw[e];simp[h];have:=FJ w.q dP i.q (yf _);rw[d,qY]at this;refine bA this rfl ?_;simp
 .have e:fj 3 v w=.mk (cR v.q.v) 0 false 0 [] []:=by simp only[fj,h,fQ];exact key v k
  rw[e];simp[h];have:=FJ v.q dP f.q (yf _);rw[d,qY]at this;refine bA this rfl ?_;simp
end Go.Ab
namespace Go.Ab
open Go.Proofs
def T.bool:TypeId:=4
def T.int:TypeId:=3
def T.ints:TypeId:=22
def T.rF:TypeId:=52
def T.u32:TypeId:=179
def T.u64:TypeId:=55
def T.key:TypeId:=100
def T.rat:TypeId:=54
def T.mono:TypeId:=102
def T.aR:TypeId:=56
def T.weight:TypeId:=58
def T.weights:TypeId:=25
def T.ring:TypeId:=24
def T.Kj:TypeId:=93
def T.aD:TypeId:=40
def T.wO:TypeId:=60
def T.vO:TypeId:=26
def T.auto:TypeId:=42
def T.trans:TypeId:=28
def T.model:TypeId:=36
def ty.map:P.underlying 266=some (.map 100 54):=by kernel_rfl
def ty.key:P.underlying 100=some (.array 3 3):=by kernel_rfl
def ty.int:P.underlying 3=some (.int .i64):=by kernel_rfl
def ty.bool:P.underlying 4=some .bool:=by kernel_rfl
def ty.u32:P.underlying 179=some (.int .u32):=by kernel_rfl
def ty.u64:P.underlying 55=some (.int .u64):=by kernel_rfl
def ty.cells:P.cellsOf 100=3:=by kernel_rfl
def ty.cell:P.cellsOf 3=1:=by kernel_rfl
def ty.Ov:P.cellsOf 179=1:=by kernel_rfl
def ty.size:0<P.types.size:=of_decide_eq_true (by kernel_rfl)
def ty.ints:P.underlying T.ints=some (.slice 3):=by kernel_rfl
def ty.rF:P.underlying T.rF=some (.slice 179):=by kernel_rfl
def ty.aR:P.underlying T.aR=some (.slice T.mono):=by kernel_rfl
def ty.Hp:P.cellsOf T.mono=6:=by kernel_rfl
def ty.weights:P.underlying T.weights=some (.slice T.weight):=by kernel_rfl
def ty.vR:P.cellsOf T.weight=8:=by kernel_rfl
def ty.aD:P.underlying T.aD=some (.slice T.Kj):=by kernel_rfl
def ty.zaU:P.cellsOf T.Kj=11:=by kernel_rfl
def ty.vO:P.underlying T.vO=some (.slice T.wO):=by kernel_rfl
def ty.Hm:P.cellsOf T.wO=12:=by kernel_rfl
def ty.rat:yM P T.rat=some ([(T.bool,0,1),(T.rF,1,1),(T.rF,2,1)],3):=by kernel_rfl
def ty.mono:yM P T.mono=some ([(T.key,0,3),(T.rat,3,3)],6):=by kernel_rfl
def ty.weight:yM P T.weight=some ([(T.rat,0,3),(T.int,3,1),(T.bool,4,1),(T.u64,5,1),(T.aR,6,1),(T.weights,7,1)],8):=by kernel_rfl
def ty.ring:yM P T.ring=some ([(T.int,0,1),(T.ints,1,1)],2):=by kernel_rfl
def ty.Kj:yM P T.Kj=some ([(T.int,0,1),(T.int,1,1),(T.int,2,1),(T.weight,3,8)],11):=by kernel_rfl
def ty.wO:yM P T.wO=some ([(T.int,0,1),(T.int,1,1),(T.int,2,1),(T.int,3,1),(T.weight,4,8)],12):=by kernel_rfl
def ty.auto:yM P T.auto=some ([(T.ring,0,2),(T.int,2,1),(T.int,3,1),(T.weights,4,1),(T.weights,5,1),(T.aD,6,1)],7):=by kernel_rfl
def ty.trans:yM P T.trans=some ([(T.ring,0,2),(T.int,2,1),(T.int,3,1),(T.int,4,1),(T.weights,5,1),(T.weights,6,1),(T.vO,7,1)],8):=by kernel_rfl
def ty.model:yM P T.model=some ([(T.int,0,1),(T.ints,1,1),(T.ints,2,1),(T.ints,3,1),(T.bool,4,1)],5):=by kernel_rfl
def ty.yJ:P.underlying 65=some (.map 111 3):=by kernel_rfl
def ty.yK:Fx P 111=some [.i64,.i64,.i64]:=by kernel_rfl
end Go.Ab
namespace Go.Ab
open Enc (enc)
def Cr(e:Ex):List PV:=[g6 e.a,g6 e.b,g6 e.c]
theorem R6(e:Ex):enc e=.agg (Cr e):=rfl
def R7(e a:Ex):tD (Cr e) (Cr a)=true ↔ e=a:=by cases e;cases a;simp[Cr,tD]
def zR:aT:=⟨false,[],[]⟩
def tK(e:Ex)(L:List (Ex × aT)):aT:=(jZ e L).getD zR
def lJ(m:aF)(L:List (Ex × aT)):List (Ex × aT):=kQ m.e (cR ((tK m.e L).v+m.bE.v)) L
theorem ME(l:List UInt32):jR (ens l)=true:=by rw[zZ];intro v a;obtain⟨x,_,rfl⟩:=cA.1 a;rfl
theorem Ik(L:List (Ex × aT)):jR (n3 L)=true:=by rw[zZ];intro v a;obtain⟨x,_,rfl⟩:=cA.1 a;rfl
def Il(L:List (Ex × aT)):jR (pD L)=true:=by rw[zZ];intro v a;obtain⟨x,_,rfl⟩:=cA.1 a;show(PV.agg [.bool x.2.neg,.sl (ens x.2.num),.sl (ens x.2.den)]).cN=true;simp[PV.cN,jR,ME]
def Lr{e:Ex}(h:e.ok=true):kA (List.replicate 3 .i64) (Cr e)=true:=by simp only[Ex.ok,decide_eq_true_eq]at h;simp[Cr,kA,List.replicate,Lit.wf,IntKind.min,IntKind.max,IntKind.signed,IntKind.bits];omega
def QV{L:List (Ex × aT)}(h:∀ p∈L,p.1.ok=true):(n3 L).all (sA (List.replicate 3 .i64))=true:=by simp only[k8];intro v a;obtain⟨x,b,rfl⟩:=cA.1 a;exact Lr (h x b)
def Km(r:Nat)(a b:List PV)(d:Exit)(s:St)(B:Option FA):Prop:=(d=.normal\/d=.ret)/\(B=some (sN r a b)\/(B=some (xz r)/\s.get 0=.p (.mp r a b)))
theorem Mr(m:aF)(L:List (Ex × aT))(n:m.e.ok=true)(x:m.bE.sm 1048576)(k:∀ p∈L,p.1.ok=true/\p.2.sm 1048576) :
  DH P 291 (n3 L) (pD L) [enc m.e,enc m.bE] (n3 (lJ m L)) (pD (lJ m L)):=by
 refine DH.fZ c.b7 (by simp) λr=>?_;show MR P _ _ _ _ (Km r (n3 (lJ m L)) (pD (lJ m L)));have o:=n;simp only[Ex.ok,decide_eq_true_eq]at o;unfold g.b7;refine MR.dG ?_;simp;refine MR.dG ?_;simp;refine bA (MG m.e ⟨⟨by omega,by omega⟩,⟨by omega,by omega⟩,by omega,by omega⟩) rfl ?_;simp;refine MR.eY (t:=true) (by simp;omega) (λ_=>?_) (λh=>by cases h);refine MR.yW rfl (by decide) ?_;have a:=RA R6 R7 m.e L;have b:=Q9 R6 R7 m.e (cR ((tK m.e L).v+m.bE.v)) L;have l:=Lr n;have i:=QV λp u=>(k p u).1;simp only[Cr,List.replicate]at a l i
 have f:∀ s:St,s.get 9=.p (.mp r (n3 L) (pD L))->s.get 10=.p (.agg (Cr m.e))->s.get 15=.p (enc (cR ((tK m.e L).v+m.bE.v))) ->
   ql P 16 ⟨none,.raw (.mapUpdate 266 (.tmp 9) (.tmp 10) (.tmp 15)),none⟩ s (some (xz r)) λs B=>Km r (n3 (lJ m L)) (pD (lJ m L)) .normal s B:=λs y z A=>by
  refine VP (d:=none) ty.map ty.key ty.int ty.cells ty.cell ty.size y z A (QV λp u=>(k p u).1) (Lr n) ?_ ?_ ?_
  .rw[b];exact Ik _
  .rw[b];exact Il _
  .rw[b];exact⟨.inl rfl,.inl rfl⟩
 cases j:jZ m.e L with
 | none =>
  rw[j]at a;have w:tK m.e L=zR:=by simp[tK,j]
  simp[a,l,i];rw[w]at f;refine bA (FJ zR m.bE ⟨by simp[zR],by simp[zR]⟩ x) rfl ?_;simp;exact f _ rfl rfl rfl
 | some c =>
  rw[j]at a;have w:tK m.e L=c:=by simp[tK,j]
  rw[w]at f;simp[a,l,i];refine bA (FJ c m.bE (k _ (TB j)).2 x) rfl ?_;simp;exact f _ rfl rfl rfl
def Pm(x y:UInt64):Bx .u64 x.toNat y.toNat=((x &&& y).toNat:Int):=by rw[yc0 x.toNat_lt y.toNat_lt,UInt64.toNat_and]
def iB(k:Int)(v w:GW):GW :=
 if k=1\/k=3 then .mk (cR (v.q.v*w.q.v)) 0 false 0 [] []
 else if k=2 then if v.inf=true\/w.inf=true\/1099511627776<v.cost+w.cost then .mk dP 0 true 0 [] []else .mk dP (v.cost+w.cost) false 0 [] []
 else if k=4 then .mk dP 0 false (v.set &&& w.set) [] []
 else .mk dP 0 false 0 (gE v.aR w.aR) []
def WB(v w:GW)(b:v.sm 1048576)(d:w.sm 1048576)(i:v.aJ ⟨1,[]⟩)(j:w.aJ ⟨1,[]⟩):zS 32 [enc (⟨1,[]⟩:aC),enc v,enc w] (enc (iB 1 v w)):=by have a:(⟨1,[]⟩:aC).ok=true:=tO (by omega);have k:v.tk ⟨1,[]⟩=v:=aX i;have l:w.tk ⟨1,[]⟩=w:=aX j;have f:=lQ ⟨1,[]⟩ v b;have h:=lQ ⟨1,[]⟩ w d;rw[k]at f;rw[l]at h;refine Sp.vz c.aa λ_=>?_;simp[g.aa];refine bA (oG ⟨1,[]⟩) rfl ?_;simp[a];refine aW f ?_;simp;refine aW h ?_;simp;refine bA (KB v.q w.q b.q d.q) rfl ?_;simp[iB]
def WD(v w:GW)(b:v.sm 1048576)(d:w.sm 1048576)(i:v.aJ ⟨3,[]⟩)(j:w.aJ ⟨3,[]⟩):zS 32 [enc (⟨3,[]⟩:aC),enc v,enc w] (enc (iB 3 v w)):=by have a:(⟨3,[]⟩:aC).ok=true:=tO (by omega);have k:v.tk ⟨3,[]⟩=v:=aX i;have l:w.tk ⟨3,[]⟩=w:=aX j;have f:=lQ ⟨3,[]⟩ v b;have h:=lQ ⟨3,[]⟩ w d;rw[k]at f;rw[l]at h;refine Sp.vz c.aa λ_=>?_;simp[g.aa];refine bA (oG ⟨3,[]⟩) rfl ?_;simp[a];refine aW f ?_;simp;refine aW h ?_;simp;refine bA (KB v.q w.q b.q d.q) rfl ?_;simp[iB]
def WC(v w:GW)(m:v.sm 1048576)(n:w.sm 1048576)(f:v.aJ ⟨2,[]⟩)(h:w.aJ ⟨2,[]⟩):zS 32 [enc (⟨2,[]⟩:aC),enc v,enc w] (enc (iB 2 v w)):=by
 have d:(⟨2,[]⟩:aC).ok=true:=tO (by omega);have o:v.tk ⟨2,[]⟩=v:=aX f;have p:w.tk ⟨2,[]⟩=w:=aX h;have j:=lQ ⟨2,[]⟩ v m;have k:=lQ ⟨2,[]⟩ w n;rw[o]at j;rw[p]at k;refine Sp.vz c.aa λ_=>?_;simp[g.aa];refine bA (oG ⟨2,[]⟩) rfl ?_;simp[d];refine aW j ?_;simp;refine aW k ?_;simp;have r:=pY.1 (f.2.1 (by simp));have s:=pY.1 (h.2.1 (by simp));have l:IntKind.i64.wrap (v.cost+w.cost)=v.cost+w.cost:=cT;obtain a|a:=iK v.inf
 .simp[iB,a]
 obtain b|b:=iK w.inf
 .simp[iB,a,b]
 simp[iB,a,b,l];refine⟨λi=>by simp[i],λi=>by simp[show ¬ 1099511627776<v.cost+w.cost by omega]⟩
def WE(v w:GW)(i:v.sm 1048576)(j:w.sm 1048576)(f:v.aJ ⟨4,[]⟩)(h:w.aJ ⟨4,[]⟩):zS 32 [enc (⟨4,[]⟩:aC),enc v,enc w] (enc (iB 4 v w)):=by have a:(⟨4,[]⟩:aC).ok=true:=tO (by omega);have k:v.tk ⟨4,[]⟩=v:=aX f;have l:w.tk ⟨4,[]⟩=w:=aX h;have b:=lQ ⟨4,[]⟩ v i;have d:=lQ ⟨4,[]⟩ w j;rw[k]at b;rw[l]at d;refine Sp.vz c.aa λ_=>?_;simp[g.aa];refine bA (oG ⟨4,[]⟩) rfl ?_;simp[a];refine aW b ?_;simp;refine aW d ?_;simp;simp[iB,Pm]
def WG(v w:GW)(s:v.sm 1048576)(t:w.sm 1048576)(j:v.aJ ⟨5,[]⟩)(k:w.aJ ⟨5,[]⟩)(D b B d:Nat)(p:lU D B v.aR)(r:lU b d w.aR)(f:D≠0)(a:b≠0)(m:D*b<4294967296^1048576)(l:46656*(B*d)<4294967296^1048576)(hs:fP v.aR 524288)(i:fP w.aR 524288):zS 32 [enc (⟨5,[]⟩:aC),enc v,enc w] (enc (iB 5 v w)):=by have u:=yf2 v.aR w.aR D b B d (BA j) (BA k) p r f a m l hs i;clear m l;have h:(⟨5,[]⟩:aC).ok=true:=tO (by omega);have x:v.tk ⟨5,[]⟩=v:=aX j;have y:w.tk ⟨5,[]⟩=w:=aX k;have n:=lQ ⟨5,[]⟩ v s;have o:=lQ ⟨5,[]⟩ w t;rw[x]at n;rw[y]at o;refine Sp.vz c.aa λ_=>?_;simp[g.aa];refine bA (oG ⟨5,[]⟩) rfl ?_;simp[h];refine aW n ?_;simp;refine aW o ?_;simp;refine bA u rfl ?_;simp[iB]
structure GW.wb (D B:Nat) (w:GW):Prop where
 q:qb D B w.q.v
 p:lU D B w.aR
def KP(q:Rat):qb q.den q.num.natAbs q:=⟨q.num,(Rat.mkRat_self q).symm,dE _⟩
def QY{n m:Nat}(h:(lb n).length<=m):n<4294967296^m:=iL (uB n) (pV (by omega) h)
def yR{x:aT}{m:Nat}(b:x.sm m)(a:1<=m):x.v.num.natAbs<4294967296^m/\x.v.den<4294967296^m:=by have:=sB b a;exact⟨QY this.1,QY this.2⟩
def P9(n:Nat)(a b:Nat)(d:a<4294967296^n)(f:b<4294967296^n):a+b<4294967296^(n+1):=by
 rw[kJ];generalize 4294967296^n=W at *
 omega
def MJ{x y:aT}{m n:Nat}(u:x.sm m)(w:y.sm n)(t:1<=m)(hn:1<=n):(cR (x.v+y.v)).sm (m+n+1):=by
 obtain⟨i,a⟩:=yR u t;obtain⟨j,b⟩:=yR w hn;have r:=zip y.v.den y.v.den_nz (KP x.v);have d:=zip x.v.den x.v.den_nz (KP y.v);rw[oI y.v.den]at d;have f:x.v.den*y.v.den≠0:=yr2 x.v.den_nz y.v.den_nz;have s:=Hw r d f;have h:∀ k,0<4294967296^k:=λk=>qZ (by omega);have l:x.v.num.natAbs*y.v.den<4294967296^(m+n):=by rw[rN];exact uJ i b
 have o:y.v.num.natAbs*x.v.den<4294967296^(m+n):=by rw[rN,oI];exact uJ a j
 have p:x.v.den*y.v.den<4294967296^(m+n):=by rw[rN];exact uJ a b
 refine JU s f (iL p (pV (by omega) (by omega))) ?_;exact P9 _ _ _ l o
def s4:List aF->Nat
 | []=>1
 | m::p=>m.bE.v.den*s4 p
theorem ya0(p:List aF):s4 p≠0:=by
 induction p with
 | nil=>simp[s4]
 | cons m p a=>exact yr2 m.bE.v.den_nz a
theorem yfm{p:List aF}{n:Nat}(hp:fP p n)(hn:1<=n):s4 p<4294967296^(n*p.length+1):=by
 induction p with
 | nil=>simp[s4]
 | cons m p f =>
  have a:=(yR (hp m (by simp)) hn).2;have b:=f λx d=>hp x (by simp[d]);have:n*(m::p).length+1=n+(n*p.length+1):=by simp[sE];omega
  rw[this,rN];exact uJ a b
def F0{p:List aF}(d:bS p)(e:Ex):pc p e=0\/∃ m∈p,pc p e=m.bE.v:=by
 by_cases h:∃ m∈p,m.e=e
 .obtain⟨m,a,rfl⟩:=h;exact .inr ⟨m,a,Hu d a⟩
 .exact .inl (D5 λm a b=>h ⟨m,a,b⟩)
def OI(p:List aF)(e:Ex)(q:Rat):(fS p e q).length<=p.length+1:=by
 rw[Mg];split
 .omega
 .induction p with
  | nil=>simp[pins]
  | cons m p a =>
   simp only[pins];(repeat' split)<;>simp<;>omega
theorem O7(p q:List aF):(eN p q).length<=p.length+q.length:=by
 induction q generalizing p with
 | nil=>simp[eN]
 | cons m q a =>
  have:=a (fS p m.e m.bE.v);have b:=OI p m.e m.bE.v;show(eN (fS p m.e m.bE.v) q).length<=_;simp;omega
def tJ:dP.v=0:=by rw[show dP=cR 0 from yA.symm,kW]
def yfr{p q:List aF}{m n:Nat}(j:bS p)(k:bS q)(hp:fP p m)(B:fP q n)(A:1<=m)(hn:1<=n):fP (eN p q) (m+n+1):=by
 intro x l;have d:=xU q j;have f:=aF.b0.1 ((iA.1 d).1 x l);have z:x.bE.v=pc p x.e+pc q x.e:=by rw[<- Hu d l,zP p (iA.1 k).1]
 rw[<- sx f.2.1,z];have u:∃ a:aT,a.sm m/\a.v=pc p x.e:=by
  obtain h|⟨y,i,h⟩:=F0 j x.e
  .exact⟨dP,yf m,by rw[tJ,h]⟩
  .exact⟨y.bE,hp y i,h.symm⟩
 have w:∃ b:aT,b.sm n/\b.v=pc q x.e:=by
  obtain h|⟨y,i,h⟩:=F0 k x.e
  .exact⟨dP,yf n,by rw[tJ,h]⟩
  .exact⟨y.bE,B y i,h.symm⟩
 obtain⟨a,o,r⟩:=u;obtain⟨b,s,t⟩:=w;rw[<- r,<- t];exact MJ o s A hn
theorem z67(v:Value)(x:AV)(n:Nat)(M:Nat->Option Obj)(st:St)(a:st.get 0=.nil)(b:st.get 1=x)(d:∀ t,st.get (t+2)=.undef)(f:aQ ⟨M,λ_ _=>none,λ_ _=>0⟩ st x v)(t:Nat) :
  aQ ⟨M,λ_ _=>none,λ_ _=>0⟩ st (st.get t) (([.slice none 0 0,v].toArray++Array.replicate n Go.undef).getD t Go.undef):=by
 match t with
 | 0 =>
  have e:([.slice none 0 0,v].toArray++Array.replicate n Go.undef).getD 0 Go.undef=.slice none 0 0:=by simp[Array.getElem?_append]
  rw[a,e];exact .nil
 | 1 =>
  have e:([.slice none 0 0,v].toArray++Array.replicate n Go.undef).getD 1 Go.undef=v:=by simp[Array.getElem?_append]
  rw[b,e];exact f
 | t+2=>rw[d];exact .undef _
def ybp(k:Nat)(b:k<=1073741824):Ht P 343 [.slice none 0 0,.int .i64 k] (.fresh 6 []):=by
 refine Ht.cE (st:=⟨[(0,.nil),(1,f8 k)],[]⟩) c.qc (by simp) rfl (λM t=>z67 _ _ _ M _ rfl rfl (λt=>by simp[St.get,look]) (.p _ _ (.int _ _)) t) ?_;simp[g.qc];have a:IntKind.i64.wrap (k:Int)=k:=cT;simp only[a];refine⟨λh=>⟨⟨by omega,by omega,by omega⟩,by omega,⟨_,aA.Dk (by decide),?_⟩⟩,λh=>⟨_,aA.refl _,?_⟩⟩
 .simp[look]
 .simp[look]
def xT{P:Program}{N:Nat}{st:St}{A:Option FA}{a:St->Option FA->Prop}(b:List (List Nat)){d:List Ins}(h:vm P N (λf s=>f=.normal->a s A) [.ins d b] st):eC P N d st A a:=by obtain⟨n,o,m,j,k,l⟩:=lL _ (Nat.le_refl _) h;have i:eC P N (d++[]) st A a:=.run j ⟨m,k,l rfl⟩;simpa using i
def WZ(p q:List aF)(o:p.length+q.length<=1073741824):Sp P 293 [.sl (ens [p,q])] (.fresh 6 (ens (p++q))):=by
 refine Sp.fZ c.px (by simp) ?_;unfold g.px;have r:IntKind.i64.wrap (0+(p.length:Int))=p.length:=by rw[cL];omega
 have i:IntKind.i64.wrap ((p.length:Int)+q.length)=((p.length+q.length:Nat):Int):=cT;have j:IntKind.i64.wrap (p.length:Int)=p.length:=cT;generalize n:(λk s (_:Option FA)=>iD [(2,none)] (RV.fresh 6 (ens (p++q))) k s)=f;refine MR.dG ?_;simp;refine MR.dG ?_;simp;refine MR.dG ?_;simp;refine zK λR a d b=>?_;simp[g.sk,j];refine a _ ?_;refine zK λR a d b=>?_;simp[g.sk,i];refine⟨by omega,λ_=>a _ ?_⟩;refine zK λR a d b=>?_;simp[g.sk];refine b _ _ ?_;simp;refine MR.cK (MR.mC (AU 1 [[3,9,10,11]] ?_));simp;refine eC.cons (XA (v:=.own 24 0 0 0) (ybp _ o) (λZ t h=>?_) rfl rfl ?_)
 .cases h with
  | cons _ _ _ _ l h =>
   cases h with
   | cons _ _ _ _ m h =>
    cases h;cases l;cases m.cF;simp
 refine xT [[24]] ?_;simp;clear a d b;subst n;refine MR.cE ?_;simp;refine zK λR a d b=>?_;simp[g.sn];refine⟨by omega,a _ ?_⟩;refine zK λR a d b=>?_;simp[g.sn];refine⟨by omega,a _ ?_⟩;refine zK λR a d b=>?_;simp[g.sn];refine b _ _ ?_;simp
end Go.Ab
