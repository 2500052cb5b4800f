/- Lemmas for the law ComposeBuildsMadeModels, part 23. No conditions. -/
import Derived.Test.YthhdboljpgdcpaaGreatDoorAP22
set_option maxRecDepth 100000
set_option maxHeartbeats 4000000
set_option linter.all false
namespace Go.Ab
def X9(x:UInt32):zS 383 [.int .u32 x.toNat] (.int .i64 (32 - uT x.toNat:Int)):=by refine Sp.vz c.ot λ_=>?_;have:=z75 (js x);simp[g.ot];refine c8 (yar x) rfl ?_;simp;rw[cG (by omega) (by omega)]
def Ww(a:List UInt32)(n:a.length<=16777216)(b:a≠[])(j:gE a):∃ s:Nat,s<=31/\zS 354 [.sl (aH a)] (.int .i64 (32*a.length - s:Int)):=by
 have o:0<a.length:=Ca.2 b;have k:a[a.length - 1].toNat≠0:=λh=>j (by
  rw[List.getLast?_eq_getElem?,List.getElem?_eq_getElem (by omega)];exact congrArg some (xC (by simpa using h)))
 have l:=z75 (js a[a.length - 1]);have m:=yb3 k;refine⟨32 - uT a[a.length - 1].toNat,by omega,?_⟩;refine Sp.vz c.oj λ_=>?_;have d:IntKind.i64.wrap ((a.length:Int) - 1)=(a.length:Int) - 1:=b5;have f:IntKind.i64.wrap (32*(a.length:Int))=32*(a.length:Int):=b5;have i:((a.length:Int) - 1).toNat=a.length - 1:=by omega
 simp[g.oj,b,d,f,i];refine bK (by omega) ⟨by omega,c8 (X9 _) rfl ?_⟩;simp;rw[cG (by omega) (by omega)];omega
def Jt(a b:List UInt32)(hl:a.length<=4194304)(cu:b.length<=4194304)(hb:val b≠0)(bk:gE b):zS 309 [.sl (aH a),.sl (aH b)] (.bP [.sl (aH (lb (val a / val b))),.sl (aH (lb (val a % val b)))]):=by
 refine Sp.vz c.j7 λ_=>?_;have h0:b≠[]:=λh=>hb (by rw[h];rfl);obtain⟨s,hs,af⟩:=Ww b (by omega) h0 bk;have e1:IntKind.i64.wrap (32*(b.length:Int))=32*(b.length:Int):=b5;simp[g.j7,e1];refine⟨λh1=>?_,λh1=>?_⟩
 .obtain⟨d,rfl⟩:∃ d,b=[d]:=Ig.1 (by omega);simp at hb;refine bK (by simp) ?_;have hd:d≠0:=λh=>hb (by rw[h];rfl);refine c8 (VA a d (by omega) hd) (by simp) ?_;simp;have e7:((val a:Int) % d.toNat)=((UInt32.ofNat (val a % d.toNat)).toNat:Int):=by have:=yH (val a) (y:=d.toNat) (by omega);have:=js d;rw[oG,uI (by omega)];simp
  rw[e7];generalize hz:UInt32.ofNat (val a % d.toNat)=z;refine c8 (xI [z]) (lH (uF rfl (by simp) (by simp)) pL) ?_;simp;have:=yH (val a) (y:=d.toNat) (by omega);have:=js d;rw[<- hz,oG,uI (a:=val a % d.toNat) (by omega)]
 .have M:val b*2^s≠0:=yE hb (FC.1 (qU (by omega)));have cw:=E2 (s:=s) (by omega);have bx:=oF (n:=val a*2^s) (k:=a.length+1) (by rw[kE];exact uG (oO a) (by omega));have ca:=oF (n:=val b*2^s) (k:=b.length+1) (by rw[kE];exact uG (oO b) (by omega));have J:=Ll M;have Y:=uA (val a*2^s);have A:=KP M;have F:val a / val b=val a*2^s / (val b*2^s)/\val a % val b=val a*2^s % (val b*2^s) / 2^s:=by have hp:0<2^s:=qU (by omega);rw[Nat.mul_mod_mul_right,Nat.mul_div_cancel _ hp,Nat.mul_div_mul_right _ _ hp];exact⟨rfl,rfl⟩
  refine c8 af rfl ?_;have e3:IntKind.i64.wrap (32*(b.length:Int) - (32*b.length - s))=s:=by rw[cG (by omega) (by omega)];omega
  simp[e3];refine c8 (Gt a s (by omega)) rfl ?_;simp;refine c8 (Gt b s (by omega)) rfl ?_;simp;rw[F.1,F.2];generalize val a*2^s=W at *
  generalize val b*2^s=V at *
  obtain⟨N,H⟩:∃ n,(lb W).length=n:=⟨_,rfl⟩;obtain⟨f,j⟩:∃ n,(lb V).length=n:=⟨_,rfl⟩;rw[H,j];rw[H]at Y bx;rw[j]at A J ca;obtain⟨K,hK⟩:∃ K,K=N+1 - f:=⟨_,rfl⟩;have e4:IntKind.i64.wrap (IntKind.i64.wrap ((N:Int) - f)+1)=(N:Int) - f+1:=by rw[cG (n:=(N:Int) - f) (by omega) (by omega),cG (by omega) (by omega)]
  have e5:(if 0<(N:Int) - f+1 then(N:Int) - f+1 else 0)=(K:Int):=by split<;>omega
  rw[e4,e5];simp only[kQ];have e6:IntKind.i64.wrap (max (K:Int) 0 - 1)=(K:Int) - 1:=by rw[cG (by omega) (by omega)];omega
  rw[e6];have hp:∀ k,0<4294967296^k:=λk=>qU (by omega);have Z:0<V:=by omega
  refine⟨⟨by omega,by omega⟩,cQ (S:=λx:Nat × Nat × List UInt32=>aD [(4,.own 1 0 0 K),(8,.p (.int .i64 s)),(9,.p (.sl (aH (lb x.2.1)))),(10,.p (.sl (aH (lb V)))),(11,.p (.int .i64 ((x.1:Int) - 1)))] [(1,⟨1,aT (List.replicate x.1 (0:UInt32)++x.2.2)⟩)])
   (I:=λx=>x.1+x.2.2.length=K/\x.2.1<V*4294967296^x.1/\W=x.2.1+V*4294967296^x.1*val x.2.2) (m:=λx=>x.1) (K,W,[])
   (aA.to [4,8,9,10,11] [((49,0),1)] (by simp)) ⟨by simp,?_,by simp⟩ ?_⟩
  .simp;refine iC Y ?_;obtain h|h:=pR (N+1) f
   .rw[show K=0 by omega];simp;exact dP (pP (by omega) (by omega)) A
   .refine dP ?_ (kD _ A);rw[<- Nat.pow_add];exact pP (by omega) (by omega)
  rintro⟨k,U,hi⟩ ⟨h1,D,X⟩ R hn hr hx;simp at h1 D X;obtain _|i:=k
  .simp[g.rx];refine hx _ _ ?_;simp at h1 D X;simp;refine c8 (xI hi) (lH (uF rfl (by simp) (by omega)) pL) ?_;simp;refine c8 (Vi (lb U) s (by have:=oF (n:=U) (k:=f) (Nat.lt_trans D (by rw[<- j];exact uA V));omega) (by omega)) (by simp) ?_;simp;have q1:W / V=val hi:=by rw[X,Ik _ _ Z,yG D];omega
   have q2:W % V=U:=by rw[X,Me,uI D]
   rw[q1,q2];exact⟨rfl,rfl⟩
  .have en:IntKind.i64.wrap ((i:Int)+f)=(i:Int)+f:=b5;have au:IntKind.i64.wrap ((i:Int)+f - 1)=(i:Int)+f - 1:=b5;have av:IntKind.i64.wrap ((f:Int) - 1)=(f:Int) - 1:=b5;have t0:((i:Int)+f).toNat=i+f:=by omega
   have t1:((i:Int)+f - 1).toNat=i+f - 1:=by omega
   have t2:((f:Int) - 1).toNat=f - 1:=by omega
   have bb:U<4294967296^(i+f - 1+2):=by refine iC D ?_;have:=uA V;rw[j]at this;rw[show i+f - 1+2=f+(i+1) by omega,rM (m:=f)];exact kD _ (z6 this)
   have o:=XS bb;rw[show i+f - 1+1=i+f by omega]at o;have u:=z21 M;rw[j]at u;have C:=ya1 (i:=i) A J D;simp[g.rx,j,en];refine c8 (vO _ _ (by omega)) rfl ?_;simp[au];refine c8 (vO _ _ (by omega)) rfl ?_;simp[av,j];refine c8 (vO _ _ (by omega)) rfl ?_;simp[t0,t2];have u1:=js ((lb U).getD (i+f) 0);have u2:=js ((lb U).getD (i+f - 1) 0);simp only[eT]at o u u1 u2;rw[u.1];generalize ((lb U)[i+f]?.getD 0).toNat=x at o u1 ⊢;generalize ((lb U)[i+f - 1]?.getD 0).toNat=y at o u2 ⊢;have ho:=LZ (r:=x) (x:=y) (k:=32) (by omega) (by omega) (by omega);simp only[show(2:Int)^32=4294967296 from rfl,show(2:Nat)^32=4294967296 from rfl]at ho;have cm:U / 4294967296^(i+f - 1)<18446744073709551616:=by omega
   rw[ho,o,S9];have hE:U / 4294967296^(i+f - 1) / (V / 4294967296^(f - 1))<18446744073709551616:=oR (Bd _ _) (by omega);generalize U / 4294967296^(i+f - 1) / (V / 4294967296^(f - 1))=E at hE C ⊢;obtain⟨G,hG⟩:∃ G,G=min E 4294967295:=⟨_,rfl⟩;have eG:(if (4294967295:Int)<(E:Int) % 18446744073709551616 then(4294967295:Int)else(E:Int) % 18446744073709551616)=(G:Int):=by split<;>omega
   rw[eG];rw[<- hG]at C;obtain⟨z,hz⟩:∃ z:UInt32,z.toNat=G:=⟨UInt32.ofNat G,by rw[oG];omega⟩;have ez:(G:Int) % 4294967296=(z.toNat:Int):=by omega
   rw[ez];have cc:¬ (V / 4294967296^(f - 1)=0):=by omega
   refine⟨cc,c8 (xI [z]) (lH (uF rfl (by simp) (by simp)) pL) ?_⟩;have ei:IntKind.i64.wrap (32*(i:Int))=((32*i:Nat):Int):=by rw[cG (by omega) (by omega)];omega
   have cx:=oF (n:=z.toNat) (k:=1) (by have:=js z;omega);simp;refine c8 (Da (lb V) (lb z.toNat) (by omega) (by omega)) (by simp) ?_;simp[ei];have cp:=oF (n:=V*z.toNat) (k:=f+1) (by rw[kE];exact uG (by rw[<- j];exact uA V) (js z));refine c8 (Gt (lb (V*z.toNat)) (32*i) (by omega)) (by simp) ?_;simp[Th];have cs:U / (V*4294967296^i)<=z.toNat:=by omega
   refine cQ (S:=λg:Nat=>aD [(4,.own 1 0 0 K),(8,.p (.int .i64 s)),(9,.p (.sl (aH (lb U)))),(10,.p (.sl (aH (lb V)))),(11,.p (.int .i64 i)),(13,.p (.int .u64 g)),(14,.p (.sl (aH (lb (V*g*4294967296^i)))))] [(1,⟨1,aT (List.replicate (i+1) (0:UInt32)++hi)⟩)])
    (I:=λg=>U / (V*4294967296^i)<=g/\g<=4294967295) (m:=λg=>g) G (aA.to [4,8,9,10,11,13,14] [((1,0),1)] (by simp[hz])) ⟨by omega,by omega⟩ ?_
   rintro l ⟨g1,g2⟩ R2 bu cv ce;simp[g.u5];refine c8 (Bx (lb U) (lb (V*l*4294967296^i))) rfl ?_;simp only[CO,go_sem]at *
   simp[ybw];have L:0<V*4294967296^i:=Be Z (hp i);have O:V*l*4294967296^i=l*(V*4294967296^i):=by rw[oH V l,pS]
   refine⟨λbt=>?_,λt=>?_⟩
   .have B:U / (V*4294967296^i)<l:=by rw[B8 L,<- O];exact bt
    have ct:0<l:=oR (rK _) B;obtain⟨w,rfl⟩:∃ w,l=w+1:=⟨l - 1,by clear B C g1;omega⟩;simp only[ei];refine c8 (Gt (lb V) (32*i) (by omega)) (by simp) ?_;simp[Th];have br:=oF (n:=V*(w+1)*4294967296^i) (k:=f+1+i) (by
     rw[rM,kE];exact Nat.mul_lt_mul_of_pos_right (uG (by rw[<- j];exact uA V) (by omega)) (hp i))
    have ad:V*4294967296^i<=V*(w+1)*4294967296^i:=by rw[O];exact Ie _ (by omega)
    refine c8 (G5 (lb (V*(w+1)*4294967296^i)) (lb (V*4294967296^i)) (by omega) (by simpa using ad)) (by simp) ?_;simp;refine bu w _ (aA.to [4,8,9,10,11,13,14] [((1,0),1)] ?_) ⟨Nat.le_of_lt_succ B,by clear B C g1;omega⟩ (by simp);have e9:((w:Int)+1 - 1) % 18446744073709551616=w:=by omega
    have al:V*(w+1)*4294967296^i - V*4294967296^i=V*w*4294967296^i:=by rw[Nat.mul_succ,wi];omega
    simp[al];omega
   .refine ce _ _ ?_;have bo:l=U / (V*4294967296^i):=by
     have:l<=U / (V*4294967296^i):=by rw[Ij L,<- O];exact t
     omega
    simp;have co:=oF (n:=U) (k:=f+(i+1)) (Nat.lt_of_lt_of_le D (by rw[Nat.pow_add (m:=f)];exact Nat.mul_le_mul_right _ (Nat.le_of_lt (by rw[<- j];exact uA V))));refine c8 (G5 (lb U) (lb (V*l*4294967296^i)) (by omega) (by simpa using t)) (by simp) ?_;simp;refine⟨⟨by omega,by omega⟩,?_⟩;rw[lM];refine bK (by simp;omega) ?_;simp;obtain⟨Q,cf⟩:∃ Q:UInt32,Q.toNat=l:=⟨UInt32.ofNat l,by rw[oG];omega⟩;have aw:(l:Int) % 4294967296=(Q.toNat:Int):=by omega
    have aq:IntKind.i64.wrap ((i:Int) - 1)=(i:Int) - 1:=b5;rw[aw,aq];have ag:(List.replicate (i+1) (AV.p (.int .u32 0))).set i (AV.p (.int .u32 Q.toNat))=List.replicate i (AV.p (.int .u32 0))++[AV.p (.int .u32 Q.toNat)]:=by rw[Mc,B7 _ _ (by simp)];simp
    refine hn (i,U - V*l*4294967296^i,Q::hi) _ (aA.to [4,8,9,10,11] [((1,0),1)] (by simp[ag])) ⟨by simp;omega,?_,?_⟩ (by simp)
    .simp only;rw[O,bo];have:=FD U (V*4294967296^i);have h9:=yH U L;rw[oH]at this;omega
    .simp only[sO,cf];rw[X,sF,<- Nat.mul_assoc,kE,O];rw[O]at t;have ao:V*4294967296^i*l=l*(V*4294967296^i):=oH _ _;have ap:V*(4294967296^i*4294967296)=V*4294967296^i*4294967296:=by rw[pS]
     rw[ao,ap];omega
open Enc (enc)
structure aS where
 neg:Bool
 num:List UInt32
 den:List UInt32
instance:Enc aS:=⟨λx=>.agg [.bool x.neg,.sl (aH x.num),.sl (aH x.den)],3,by decide,λ_=>rfl⟩
@[simp] theorem yl8(x:aS):enc x=.agg [.bool x.neg,.sl (aH x.num),.sl (aH x.den)]:=rfl
@[simp] theorem yit:Enc.sz aS=3:=rfl
instance (l:List UInt32):Decidable (gE l):=inferInstanceAs (Decidable (¬ _))
def aS.valid(x:aS):Bool :=
 decide (gE x.num)&&decide (gE x.den)&&(if x.num=[]then !x.neg&&decide (x.den=[])else decide (x.den=[]\/(val x.den≠1/\Nat.gcd (val x.num) (val x.den)=1)))
def aS.sm(x:aS)(n:Nat):Prop:=x.num.length<=n/\x.den.length<=n
@[simp] theorem yjg:gE []:=by simp[gE]
def TE(a b:List UInt32)(w:a.length<=4194304)(k:b.length<=4194304)(t:gE a)(u:gE b):zS 266 [.sl (aH a),.sl (aH b)] (.sl (aH (lb (Nat.gcd (val a) (val b))))):=by
 refine Sp.vz c.j0 λ_=>?_;simp[g.j0];refine cQ (S:=λx:List UInt32 × List UInt32=>aD [(0,.p (.sl (aH x.1))),(1,.p (.sl (aH x.2)))] []) (I:=λx=>x.1.length<=4194304/\x.2.length<=4194304/\gE x.1/\gE x.2/\Nat.gcd (val x.1) (val x.2)=Nat.gcd (val a) (val b)) (m:=λx=>val x.2) (a,b) (aA.of (keep:=[0,1]) (ids:=[]) rfl) ⟨w,k,t,u,rfl⟩ ?_;rintro⟨x,y⟩ ⟨l,j,n,f,i⟩ R z B A;simp at l j n f i;simp[g.uy];refine⟨λh=>?_,λh=>A _ _ ?_⟩
 .have r:val y≠0:=λs=>by rw[<- vY f,s]at h;simp at h
  refine c8 (Jt x y l j r f) rfl ?_;simp;have d:=Nat.mod_lt (val x) (Nat.pos_of_ne_zero r);have o:=oF (Nat.lt_trans d (oO y));refine z (y,lb (val x % val y)) _ (aA.of (keep:=[0,1]) (ids:=[]) rfl) ⟨j,by simp only;omega,f,tT _,?_⟩ (by simpa using d);simp only[CO];rw[<- i,Nat.gcd_comm (val x),Nat.gcd_rec (val y) (val x),Nat.gcd_comm]
 .subst h;simp at i;simp;rw[<- i,vY n]
def Bz:zS 265 [] (.sl (aH [(1:UInt32)])):=by refine Sp.vz c.gm λ_=>?_;simp[g.gm]
def OT(a:List UInt32):zS 263 [.sl (aH a)] (.bool (decide (gE a))):=by
 refine Sp.vz c.nt λf=>?_;have j:=EI f.1;have e:IntKind.i64.wrap (↑a.length - 1) = ↑a.length - 1:=b5;have b:((a.length:Int) - 1).toNat=a.length - 1:=by omega
 simp[g.nt,e,b];refine⟨λh=>by subst h;simp[gE],λh=>?_⟩;have k:=List.length_pos_iff.2 h;refine bK (by omega) ⟨by omega,?_⟩;have i:(a[a.length - 1].toNat=0) ↔ ¬ gE a:=by simp only[gE,List.getLast?_eq_getElem?,List.getElem?_eq_getElem (show a.length - 1<a.length by omega)];simp;exact⟨λh=>xC (by simpa using h),λh=>by rw[h];rfl⟩
 by_cases d:gE a<;>simp[d,i]
def K4(x:aS)(k:x.sm 4194304):zS 194 [enc x] (.bool x.valid):=by
 obtain⟨i,j⟩:=k;refine Sp.vz c.fx λ_=>?_;simp[g.fx];refine c8 (OT x.num) rfl ?_;simp;refine⟨λb=>?_,λb=>?_⟩
 .refine c8 (OT x.den) rfl ?_;simp;refine⟨λd=>?_,λd=>?_⟩
  .refine⟨λf=>?_,λf=>⟨λa=>?_,λa=>?_⟩⟩
   .rw[E8];refine⟨λa=>?_,λa=>?_⟩
    .simp[aS.valid,d,f,a]
    .simp[aS.valid,d,f,a]
   .simp[aS.valid,b,f,a]
   .refine fE Bz pL ?_;simp;refine fE (Bx x.den [1]) rfl ?_;simp[E0];refine⟨λh=>?_,λh=>?_⟩
    .simp[aS.valid,b,d,f,a,h]
    .refine fE (TE x.num x.den i j b d) rfl ?_;simp;refine fE Bz pL ?_;simp;refine fE (Bx _ [1]) rfl ?_;simp[E0];simp[aS.valid,b,d,f,a,h]
  .simp[aS.valid,b,d]
 .simp[aS.valid,b]
def lC(a:Bool)(n:Nat):Int:=if a then -(n:Int)else n
def aS.v(x:aS):Rat:=if x.valid then mkRat (lC x.neg (val x.num)) (if x.den=[]then 1 else val x.den)else 0
def cH(q:Rat):aS:=⟨decide (q.num<0),lb q.num.natAbs,if q.den=1 then[]else lb q.den⟩
structure Fr where
 neg:Bool
 n:Nat
 d:Nat
def Fr.e(f:Fr):aS:=⟨f.neg,lb f.n,lb f.d⟩
def Fr.v(f:Fr):Rat:=mkRat (lC f.neg f.n) f.d
def gR(q:Rat):Fr:=⟨decide (q.num<0),q.num.natAbs,q.den⟩
def PW(z:Int):lC (decide (z<0)) z.natAbs=z:=by unfold lC;split<;>simp_all<;>omega
def uY(q:Rat):(gR q).v=q:=by simp[Fr.v,gR,PW,Ic]
def Du(b:Bool)(n:Nat):(lC b n).natAbs=n:=by unfold lC;split<;>simp
def U7{x:aS}(h:x.valid=true)(hn:x.num≠[])(hd:x.den≠[]):val x.den≠1/\Nat.gcd (val x.num) (val x.den)=1:=by simp[aS.valid,hn,hd]at h;exact h.2
def KG{l:List UInt32}(h:gE l):val l=0 ↔ l=[]:=⟨λa=>by rw[<- vY h,a];simp,λa=>by rw[a];rfl⟩
def sK{x:aS}(h:x.valid=true):cH x.v=x:=by
 have k:x.v=mkRat (lC x.neg (val x.num)) (if x.den=[]then 1 else val x.den):=by simp[aS.v,h]
 have f:gE x.num/\gE x.den:=by simp[aS.valid]at h;exact⟨h.1.1,h.1.2⟩
 obtain⟨a,num,d⟩:=x;simp only at k f;by_cases n:num=[]
 .subst n;simp[aS.valid]at h;obtain⟨_,rfl,rfl⟩:=h;rw[k];simp[cH,lC]
 .have o:val num≠0:=λl=>n ((KG f.1).1 l);have r:(lC a (val num))≠0:=by unfold lC;split<;>omega
  have i:decide (lC a (val num)<0)=a:=by unfold lC;cases a<;>simp;omega
  by_cases j:d=[]
  .subst j;rw[k];simp only[cB];have e:mkRat (lC a (val num)) 1=((lC a (val num):Int):Rat):=by simp[Rat.mkRat_one]
   rw[e];simp only[cH,Rat.num_intCast,Rat.den_intCast,cB,Du,vY f.1]
   congr 1
  .have b:=U7 h n j;simp only at b;have m:val d≠0:=λl=>j ((KG f.2).1 l);rw[k,aY j];have p:mkRat (lC a (val num)) (val d)=⟨lC a (val num),val d,m,by rw[Du];exact b.2⟩:=by rw[Rat.mk_eq_mkRat]
   rw[p];simp only[cH,aY b.1,Du,vY f.1,vY f.2,i]
def nC(q:Rat):(gR q).d≠0:=q.den_nz
def sP(q:Rat):(cH q).valid=true:=by
 have b:(lb q.num.natAbs=[]) ↔ q.num=0:=by simp
 simp only[aS.valid,cH,decide_true,Ib,tT];by_cases a:q.num=0
 .have:q.den=1:=by have:=q.reduced;rw[a]at this;simpa[Nat.Coprime]using this
  have f:=b.2 a;simp[a,this]
 .have f:¬ lb q.num.natAbs=[]:=λh=>a (b.1 h);by_cases d:q.den=1
  .simp[d,a]
  .have i:Nat.gcd q.num.natAbs q.den=1:=q.reduced;simp[d,tT,i,a]
def iN(q:Rat):(cH q).v=q:=by
 rw[aS.v,aW (sP q)];have a:(if (cH q).den=[]then 1 else val (cH q).den)=q.den:=by
  simp only[cH];by_cases b:q.den=1
  .simp[b]
  .have:q.den≠0:=q.den_nz;simp[b,this]
 rw[a];simp only[cH,CO,PW,Ic]
def ydz{p q:Rat}(h:cH p=cH q):p=q:=by rw[<- iN p,h,iN]
def Hj{x:aS}(h:x.valid=false):x.v=0:=by simp[aS.v,h]
def xh:cH 0=⟨false,[],[]⟩:=by simp[cH]
def ydv{b:Bool}{n g:Nat}(h:g ∣ n):lC b n / (g:Int)=lC b (n / g):=by
 unfold lC;cases b
 .simp
 .simp only[cB];rw[Int.neg_ediv_of_dvd (Int.natCast_dvd_natCast.2 h)];simp
def ydu{b:Bool}{n:Nat}(h:n≠0):decide (lC b n<0)=b:=by unfold lC;cases b<;>simp;omega
def z32{f:Fr}(hd:f.d≠0)(hn:f.n≠0):cH f.v=⟨f.neg,lb (f.n / Nat.gcd f.n f.d),if f.d / Nat.gcd f.n f.d=1 then[]else lb (f.d / Nat.gcd f.n f.d)⟩:=by
 have i:0<Nat.gcd f.n f.d:=Mb _ (by omega);have a:f.v.num=lC f.neg (f.n / Nat.gcd f.n f.d):=by rw[Fr.v,Rat.num_mkRat,aY hd,Du,Nat.gcd_comm,ydv (Nat.gcd_dvd_left _ _)]
 have b:f.v.den=f.d / Nat.gcd f.n f.d:=by rw[Fr.v,Rat.den_mkRat,aY hd,Du,Nat.gcd_comm]
 have h:f.n / Nat.gcd f.n f.d≠0:=by have:=Nat.div_pos (Nat.gcd_le_left f.d (by omega:0<f.n)) i;omega
 simp only[cH,a,b,Du,ydu h]
def K8{f:Fr}(hn:f.n=0):f.v=0:=by simp[Fr.v,hn,lC]
def Sr:(gR 0).e=⟨false,[],[1]⟩:=by simp[gR,Fr.e,By]
def KZ{x:aS}(h:x.valid=true):(gR x.v).e=⟨x.neg,x.num,if x.den=[]then[1]else x.den⟩:=by have e:=sK h;generalize x.v=q at e;subst e;have:q.den≠0:=q.den_nz;by_cases a:q.den=1<;>simp[gR,Fr.e,cH,a,By,this]
def Bu(x:aS)(b:x.sm 4194304):zS 268 [enc x] (enc (gR x.v).e):=by
 refine Sp.vz c.dw λ_=>?_;simp[g.dw];refine c8 (K4 x b) rfl ?_;simp;rw[E8];refine⟨λh=>?_,λh=>?_⟩
 .simp;rw[KZ h];refine⟨λa=>?_,λa=>?_⟩
  .refine fE Bz pL ?_;simp[a]
  .simp[a]
 .simp;refine c8 Bz pL ?_;simp[Hj h,Sr]
def Gs(f:Fr)(hd:f.d≠0)(m:f.e.sm 4194304):zS 270 [enc f.e] (enc (cH f.v)):=by
 obtain⟨i,j⟩:=m;simp only[Fr.e]at i j;refine Sp.vz c.dz λ_=>?_;simp[g.dz,Fr.e];refine⟨λh=>?_,λh=>?_⟩
 .simp[K8 h,xh]
 .have o:=Mb f.d (B6 h);refine fE (QG _ (by omega)) rfl ?_;simp;refine fE (QG _ (by omega)) rfl ?_;simp;refine c8 (TE _ _ i j (tT _) (tT _)) rfl ?_;simp;refine c8 Bz pL ?_;simp;refine c8 (Bx _ [1]) rfl ?_;have b:(lb (Nat.gcd f.n f.d)).length<=4194304:=by refine dP (oF (n:=Nat.gcd f.n f.d) (k:=(lb f.n).length) ?_) i;exact oR (Nat.gcd_le_left _ (B6 h)) (uA _)
  rw[z32 hd h];simp[E0];refine⟨λl=>?_,λl=>?_⟩
  .refine c8 Bz pL ?_;simp;refine c8 (Bx _ [1]) rfl ?_;simp[E0,l];refine⟨λa=>?_,λa=>?_⟩<;>simp[a]
  .refine c8 (Jt (lb f.n) (lb (Nat.gcd f.n f.d)) i b (by simp;omega) (tT _)) rfl ?_;simp;refine c8 (Jt (lb f.d) (lb (Nat.gcd f.n f.d)) j b (by simp;omega) (tT _)) rfl ?_;simp;refine c8 Bz pL ?_;simp;refine c8 (Bx _ [1]) rfl ?_;simp[E0];refine⟨λa=>?_,λa=>?_⟩<;>simp[a]
def iY(f g:Fr):Fr :=
 if f.neg=g.neg then⟨f.neg,f.n*g.d+g.n*f.d,f.d*g.d⟩
 else if g.n*f.d<=f.n*g.d then⟨f.neg,f.n*g.d - g.n*f.d,f.d*g.d⟩else⟨g.neg,g.n*f.d - f.n*g.d,f.d*g.d⟩
def se(f g:Fr):Fr:=⟨f.neg != g.neg,f.n*g.n,f.d*g.d⟩
def RZ(b:Bool)(n d:Nat):lC b n*(d:Int)=lC b (n*d):=by unfold lC;cases b<;>simp[Int.neg_mul]
def Ei{f g:Fr}(a:f.d≠0)(b:g.d≠0):(iY f g).v=f.v+g.v:=by
 unfold Fr.v;rw[Rat.mkRat_add_mkRat _ _ a b,RZ,RZ];unfold iY;generalize f.n*g.d=A;generalize g.n*f.d=B;cases h:f.neg<;>cases i:g.neg<;>simp[lC]
 .split<;>simp<;>congr 1<;>omega
 .split<;>simp<;>congr 1<;>omega
 .congr 1;omega
def LR(f g:Fr):(se f g).v=f.v*g.v:=by
 unfold Fr.v;rw[Rat.mkRat_mul_mkRat];simp only[se]
 congr 1
 unfold lC;cases f.neg<;>cases g.neg<;>simp[Int.neg_mul,Int.mul_neg]
def Eh{f g:Fr}(a:f.d≠0)(b:g.d≠0):(iY f g).d≠0:=by
 have:(iY f g).d=f.d*g.d:=by unfold iY;split<;>(try split)<;>rfl
 rw[this];exact yE a b
def sq{x:aS}{n:Nat}(h:x.sm n)(hn:1<=n):(gR x.v).e.sm n:=by
 by_cases a:x.valid=true
 .rw[KZ a];refine⟨h.1,?_⟩;simp only;split
  .simpa using hn
  .exact h.2
 .rw[Hj (by simpa using a),Sr];exact⟨by simp,by simpa using hn⟩
def xG{m n a b:Nat}(d:(lb m).length<=a)(f:(lb n).length<=b):(lb (m*n)).length<=a+b:=by refine oF ?_;rw[rM];exact uG (iC (uA m) (pP (by omega) d)) (iC (uA n) (pP (by omega) f))
def Ka{m n:Nat}(h:m<=n):(lb m).length<=(lb n).length:=oF (oR h (uA n))
def CV{m n a:Nat}(b:(lb m).length<=a)(d:(lb n).length<=a):(lb (m+n)).length<=a+1:=by refine oF ?_;have:=iC (uA m) (pP (n:=4294967296) (by omega) b);have:=iC (uA n) (pP (n:=4294967296) (by omega) d);rw[kE];omega
def Ew{f g:Fr}{n:Nat}(j:f.e.sm n)(k:g.e.sm n):(iY f g).e.sm (n+n+1):=by
 obtain⟨a,b⟩:=j;obtain⟨c,d⟩:=k;simp only[Fr.e]at a b c d;have h:=xG a d;have i:=xG c b;have l:=xG b d;unfold iY;split
 .exact⟨CV h i,by simp only[Fr.e];omega⟩
 .split
  .exact⟨by have:=Ka (Nat.sub_le (f.n*g.d) (g.n*f.d));simp only[Fr.e];omega,by simp only[Fr.e];omega⟩
  .exact⟨by have:=Ka (Nat.sub_le (g.n*f.d) (f.n*g.d));simp only[Fr.e];omega,by simp only[Fr.e];omega⟩
def JA{f g:Fr}{n:Nat}(a:f.e.sm n)(b:g.e.sm n):(se f g).e.sm (n+n):=⟨xG a.1 b.1,xG a.2 b.2⟩
def aS.sm.mono{x:aS}{m n:Nat}(h:x.sm m)(a:m<=n):x.sm n:=⟨dP h.1 a,dP h.2 a⟩
def Sq(u w:Fr)(b:u.e.sm 1048576)(f:w.e.sm 1048576):zS 269 [enc u.e,enc w.e] (enc (iY u w).e):=by
 have o:=xG b.1 f.2;have p:=xG f.1 b.2;have r:=xG b.2 f.2;obtain⟨j,k⟩:=b;obtain⟨l,m⟩:=f;simp only[Fr.e]at j k l m;refine Sp.vz c.j5 λ_=>?_;simp[g.j5,Fr.e];refine fE (Da (lb u.n) (lb w.d) (by omega) (by omega)) rfl ?_;simp;refine fE (Da (lb w.n) (lb u.d) (by omega) (by omega)) rfl ?_;simp;refine fE (Da (lb u.d) (lb w.d) (by omega) (by omega)) rfl ?_;simp;refine⟨λh=>?_,λh=>?_⟩
 .refine fE (Z4 (lb (u.n*w.d)) (lb (w.n*u.d)) (by omega) (by omega)) rfl ?_;simp[h,iY]
 .refine c8 (Bx (lb (u.n*w.d)) (lb (w.n*u.d))) rfl ?_;simp[HA];refine⟨λa=>?_,λa=>?_⟩
  .refine fE (G5 (lb (u.n*w.d)) (lb (w.n*u.d)) (by omega) (by simpa using a)) rfl ?_;simp[h,a,iY]
  .refine fE (G5 (lb (w.n*u.d)) (lb (u.n*w.d)) (by omega) (by simp;omega)) rfl ?_;have i:¬ (w.n*u.d<=u.n*w.d):=Nat.not_le.2 a;simp[h,i,iY]
def EM(x y:aS)(d:x.sm 1048576)(f:y.sm 1048576):zS 199 [enc x,enc y] (enc (cH (x.v+y.v))):=by have a:=sq d (by omega);have b:=sq f (by omega);refine Sp.vz c.ge λ_=>?_;simp[g.ge];refine fE (Bu x (d.mono (by omega))) rfl ?_;simp;refine fE (Bu y (f.mono (by omega))) rfl ?_;simp;refine fE (Sq _ _ a b) rfl ?_;simp;refine fE (Gs _ (Eh (nC _) (nC _)) ((Ew a b).mono (by omega))) rfl ?_;simp[Ei,nC,uY]
def z35(x y:aS)(f:x.sm 1048576)(h:y.sm 1048576):zS 201 [enc x,enc y] (enc (cH (x.v*y.v))):=by
 have a:=sq f (by omega);have b:=sq h (by omega);have m:=JA a b;have n:(se (gR x.v) (gR y.v)).d≠0:=yE (nC _) (nC _);obtain⟨i,j⟩:=a;obtain⟨k,l⟩:=b;simp only[Fr.e]at i j k l;refine Sp.vz c.jv λ_=>?_;simp[g.jv];refine fE (Bu x (f.mono (by omega))) rfl ?_;simp;refine fE (Bu y (h.mono (by omega))) rfl ?_;simp[Fr.e];refine fE (Da _ _ (by omega) (by omega)) rfl ?_;simp;refine fE (Da _ _ (by omega) (by omega)) rfl ?_;simp;refine fE (Gs (se (gR x.v) (gR y.v)) n (m.mono (by omega))) ?_ ?_
 .simp[se,Fr.e,bne]
 .simp[LR,uY]
def pr(u:Fr):Fr:=⟨!u.neg,u.n,u.d⟩
def T7(u:Fr):zS 315 [enc u.e] (enc (pr u).e):=by refine Sp.vz c.oe λ_=>?_;simp[g.oe,pr,Fr.e]
def LS(u:Fr):(pr u).v = - u.v:=by unfold Fr.v pr;rw[Rat.neg_mkRat];congr 1;unfold lC;cases u.neg<;>simp
def yd1(x y:aS)(d:x.sm 1048576)(h:y.sm 1048576):zS 274 [enc x,enc y] (enc (cH (x.v - y.v))):=by have a:=sq d (by omega);have i:=sq h (by omega);have b:(pr (gR y.v)).e.sm 1048576:=i;refine Sp.vz c.ny λ_=>?_;simp[g.ny];refine fE (Bu x (d.mono (by omega))) rfl ?_;simp;refine fE (Bu y (h.mono (by omega))) rfl ?_;simp;refine fE (T7 (gR y.v)) rfl ?_;simp;refine fE (Sq (gR x.v) (pr (gR y.v)) a b) rfl ?_;simp;refine fE (Gs (iY (gR x.v) (pr (gR y.v))) (Eh (nC _) (nC y.v)) ((Ew a b).mono (by omega))) rfl ?_;have e:=Ei (f:=gR x.v) (g:=pr (gR y.v)) (nC _) (nC y.v);simp[e,uY,LS,SP]
def kH(q:Rat):Int:=if q.num=0 then 0 else if q.num<0 then -1 else 1
def GR(x:aS)(b:x.sm 4194304):zS 219 [enc x] (.int .i64 (kH x.v)):=by refine Sp.vz c.dm λ_=>?_;simp[g.dm];refine c8 (Bu x b) rfl ?_;simp[Fr.e,gR,kH];refine⟨λh=>by simp[h],λh=>⟨λa=>by simp[h,a],λa=>by simp[h];omega⟩⟩
def Rr{n d:Nat}:(lb (n / d)).length<=(lb n).length:=Ka (Bd _ _)
def Hi{f:Fr}{n:Nat}(hd:f.d≠0)(h:f.e.sm n):(cH f.v).sm n:=by
 by_cases a:f.n=0
 .rw[K8 a,xh];exact⟨by simp,by simp⟩
 .rw[z32 hd a];refine⟨dP Rr h.1,?_⟩;simp only;split
  .simp
  .exact dP Rr h.2
def QC(x y:aS)(a:x.sm 1048576)(b:y.sm 1048576):zS 220 [enc x,enc y] (.int .i64 (kH (x.v - y.v))):=by
 have d:=sq a (by omega);have h:=sq b (by omega);have i:(pr (gR y.v)).e.sm 1048576:=h;have j:(cH (x.v - y.v)).sm 4194304:=by have e:=Ei (f:=gR x.v) (g:=pr (gR y.v)) (nC _) (nC y.v);rw[uY,LS,uY,<- Rat.sub_eq_add_neg]at e;rw[<- e];exact Hi (Eh (nC _) (nC y.v)) ((Ew d i).mono (by omega))
 refine Sp.vz c.jw λ_=>?_;simp[g.jw];refine c8 (yd1 x y a b) rfl ?_;simp;refine c8 (GR (cH (x.v - y.v)) j) rfl ?_;simp[iN]
def N'(v:Int)(l : -9223372036854775808<=v)(m:v<=9223372036854775807):zS 310 [.int .i64 v] (.bP [.bool (decide (v<0)),.sl (aH (lb v.natAbs))]):=by
 refine Sp.vz c.n9 λ_=>?_;simp[g.n9];obtain⟨a,i⟩:∃ z:UInt32,z.toNat=v.natAbs % 4294967296:=⟨_,oG _⟩;obtain⟨b,j⟩:∃ z:UInt32,z.toNat=v.natAbs / 4294967296 % 4294967296:=⟨_,oG _⟩;have k:val [a,b]=v.natAbs:=by simp only[sO,z20,i,j];omega
 refine⟨λh=>?_,λh=>?_⟩
 .have d:(-(v % 18446744073709551616)) % 4294967296=(a.toNat:Int):=by omega
  have f:(-(v % 18446744073709551616)) % 18446744073709551616 / 4294967296 % 4294967296=(b.toNat:Int):=by omega
  simp only[d,f];refine c8 (xI [a,b]) (lH (uF rfl (by simp) (by simp)) pL) ?_;rw[k];simp[h]
 .have d:v % 4294967296=(a.toNat:Int):=by omega
  have f:v % 18446744073709551616 / 4294967296 % 4294967296=(b.toNat:Int):=by omega
  simp only[d,f];refine c8 (xI [a,b]) (lH (uF rfl (by simp) (by simp)) pL) ?_;rw[k];simp
def Ox(a b:Int):(⟨decide (a<0) != decide (b<0),a.natAbs,b.natAbs⟩:Fr).v=Rat.divInt a b:=by
 simp only[Fr.v];obtain h|h:=(by omega:b<0\/0<=b)
 .have e:Rat.divInt a b=mkRat (-a) b.natAbs:=by rw[<- Rat.divInt_ofNat,<- Rat.neg_divInt_neg];congr 1;omega
  rw[e];congr 1;unfold lC;by_cases d:a<0<;>simp[d,h]<;>omega
 .have e:Rat.divInt a b=mkRat a b.natAbs:=by rw[<- Rat.divInt_ofNat];congr 1;omega
  have f:¬ b<0:=by omega
  rw[e];congr 1;unfold lC;by_cases d:a<0<;>simp[d,f]<;>omega
def Vj(a b:Int)(d : -9223372036854775808<=a/\a<=9223372036854775807)(f : -9223372036854775808<=b/\b<=9223372036854775807) :
  zS 267 [.int .i64 a,.int .i64 b] (.bP [enc (if b=0 then cH 0 else cH (Rat.divInt a b)),.int .i64 (if b=0 then 11 else 0)]):=by
 have i:=oF (n:=a.natAbs) (k:=2) (by omega);have j:=oF (n:=b.natAbs) (k:=2) (by omega);refine Sp.vz c.j4 λ_=>?_;simp[g.j4];refine⟨λh=>by simp[h,xh],λh=>?_⟩;refine c8 (N' a d.1 d.2) rfl ?_;simp;refine c8 (N' b f.1 f.2) rfl ?_;simp;refine c8 (Gs ⟨decide (a<0) != decide (b<0),a.natAbs,b.natAbs⟩ (by simpa using h) ⟨by simp only[Fr.e];omega,by simp only[Fr.e];omega⟩) ?_ ?_
 .simp[Fr.e,bne]
 .simp[Ox,h]
@[simp] theorem ylz(x:UInt32):IntKind.i64.wrap (x.toNat:Int)=x.toNat:=by have:=x.toNat_lt;exact cG (by omega) (by omega)
def EH(a:List UInt32):zS 177 [.sl (aH a)] (.sl (aH (lb (val a)))):=by
 refine Sp.vz c.cj λs=>?_;have o:=EI s.1;simp[g.cj];refine cQ (S:=λl:List UInt32=>aD [(0,.p (.sl (aH l)))] []) (I:=λl=>val l=val a/\l.length<=9223372036854775807) (m:=λl=>l.length) a (aA.of (keep:=[0]) (ids:=[]) rfl) ⟨rfl,o⟩ ?_;rintro l ⟨i,u⟩ R r w t;have e:IntKind.i64.wrap (↑l.length - 1) = ↑l.length - 1:=b5;have j:((l.length:Int) - 1).toNat=l.length - 1:=by omega
 simp[g.uk,aD,e,j];have d:gE l->R (Exit.exit 0) ⟨[(0,.p (.sl (aH l)))],[(aL,[none])]⟩:=λn=>by refine t _ _ ?_;simp;rw[<- i,vY n]
 refine⟨λh=>bK (by omega) ⟨by omega,λf=>⟨by omega,r (l.take (l.length - 1)) _ (aA.of (keep:=[0]) (ids:=[]) rfl) ?_ ?_⟩,λf=>d ?_⟩,λh=>d ?_⟩
 .refine⟨?_,by simp;omega⟩;have k:l=l.take (l.length - 1)++[0]:=by
   conv=>lhs;rw[<- List.take_append_getLast l (by intro b;simp[b]at h)]
   rw[List.getLast_eq_getElem,xC (x:=l[l.length - 1]) (y:=0) (by simpa using f)]
  rw[k,zD]at i;simpa using i
 .simp;omega
 .intro b;rw[List.getLast?_eq_getElem?,dF (by omega)]at b;simp at b;rw[b]at f;exact f rfl
 .subst h;simp[gE]
def Gw(a:List UInt32)(i:Int)(h:0<=i):zS 259 [.sl (aH a),.int .i64 i] (.int .u64 (a.getD i.toNat 0).toNat):=by
 refine Sp.vz c.jy λ_=>?_;simp[g.jy];refine⟨λb=>?_,λb=>bK (by omega) ⟨h,?_⟩⟩
 .have:a.length<=i.toNat:=by omega
  simp[this]
 .have:i.toNat<a.length:=by omega
  simp[*]
def z8(v:Int):Int:=if v<0 then -1 else if 0<v then 1 else 0
def R1(v:Int):zS 260 [.int .i64 v] (.int .i64 (z8 v)):=by refine Sp.vz c.jz λ_=>?_;simp[g.jz,z8];refine⟨λh=>by omega,λh=>⟨λa=>by split<;>omega,λa=>by split<;>omega⟩⟩
def PG(v:Nat)(h:v<18446744073709551616):zS 137 [.int .u64 v] (.sl (aH (lb v))):=by
 refine Sp.vz c.mg λ_=>?_;simp[g.mg];obtain⟨d,a⟩:∃ z:UInt32,z.toNat=v % 4294967296:=⟨_,oG _⟩;obtain⟨f,b⟩:∃ z:UInt32,z.toNat=v / 4294967296 % 4294967296:=⟨_,oG _⟩;have k:val [d,f]=v:=by simp only[sO,z20,a,b];omega
 have i:(v:Int) % 4294967296=(d.toNat:Int):=by omega
 have j:(v:Int) / 4294967296 % 4294967296=(f.toNat:Int):=by omega
 simp only[i,j];refine c8 (EH [d,f]) (lH (uF rfl (by simp) (by simp)) pL) ?_;rw[k];simp
def C4(a:List UInt32):zS 176 [.sl (aH a)] (.bool (decide (a=[1]))):=by
 refine Sp.vz c.jp λ_=>?_;simp[g.jp];refine⟨λh=>?_,λh=>?_⟩
 .obtain⟨d,rfl⟩:∃ d,a=[d]:=Ig.1 (by omega);refine bK (by simp) ?_;simp;by_cases b:d=1
  .subst b;simp
  .have:d.toNat≠1:=λh=>b (xC (by simpa using h));simp[b];omega
 .intro f;subst f;simp at h
def OJ{a b:List UInt32}(l:gE a)(i:gE b)(h:a.length<b.length):val a<val b:=by
 have k:=oO a;have d:val b≠0:=λj=>by rw[(KG i).1 j]at h;simp at h
 have f:=KP d;rw[vY i]at f;exact iC k (dP (pP (by omega) (by omega)) f)
def Lb(a b:List UInt32)(F:a.length<=1073741824)(y:b.length<=1073741824)(o:gE a)(r:gE b):zS 189 [.sl (aH a),.sl (aH b)] (.int .i64 (kN (val a) (val b))):=by
 refine Sp.vz c.jr λ_=>?_;have s:IntKind.i64.wrap ((a.length:Int) - b.length)=(a.length:Int) - b.length:=b5;have t:IntKind.i64.wrap ((a.length:Int) - 1)=(a.length:Int) - 1:=b5;simp[g.jr,s,t];refine⟨λd=>?_,λd=>?_⟩
 .have d:a.length=b.length:=by omega
  refine cQ (S:=λk:Nat=>aD [(0,.p (.sl (aH a))),(1,.p (.sl (aH b))),(5,.p (.int .i64 ((k:Int) - 1)))] []) (I:=λk=>k<=a.length/\val a / 4294967296^k=val b / 4294967296^k) (m:=λk=>k) a.length (aA.of (keep:=[0,1,5]) (ids:=[]) rfl) ⟨dK _,by rw[HD _ (by omega),HD _ (by omega)]⟩ ?_;rintro k ⟨E,n⟩ R z B D;have u:((k:Int) - 1).toNat=k - 1:=by omega
  have f:IntKind.i64.wrap ((k:Int) - 1 - 1)=((k - 1:Nat):Int) - 1\/k=0:=by
   obtain h|h:=Cb k
   .exact .inr h
   .left;rw[cG (by omega) (by omega)];omega
  simp[g.ur,aD,u];refine⟨λx=>bK (by omega) ⟨by omega,bK (by omega) ?_⟩,λx=>?_⟩
  .have f:=f.resolve_right (by omega);have j:=HB a (k - 1);have l:=HB b (k - 1);rw[show k - 1+1=k by omega]at j l;have G:=js a[k - 1];have H:=js b[k - 1];simp[show k - 1<a.length by omega,show k - 1<b.length by omega]at j l;refine⟨by omega,λw=>?_,λA=>bK (by omega) ⟨by omega,bK (by omega) ⟨by omega,?_⟩⟩⟩
   .rw[f];exact z (k - 1) _ (aA.of (keep:=[0,1,5]) (ids:=[]) rfl) ⟨by omega,by omega⟩ (by omega)
   .have C:IntKind.i64.wrap ((a[k - 1].toNat:Int) - b[k - 1].toNat)=(a[k - 1].toNat:Int) - b[k - 1].toNat:=b5;rw[C];refine fE (R1 _) rfl ?_;simp;refine B _ ?_;simp[z8];have i:val a / 4294967296^(k - 1)<val b / 4294967296^(k - 1)\/val b / 4294967296^(k - 1)<val a / 4294967296^(k - 1):=by omega
    obtain h|h:=i
    .have:=Hd h;simp only[kN];(repeat' split)<;>omega
    .have:=Hd h;simp only[kN];(repeat' split)<;>omega
  .refine D _ _ ?_;have:k=0:=by omega
   subst this;simp at n;simp[kN,n]
 .refine c8 (R1 _) rfl ?_;simp[z8];obtain h|h:=pR a.length b.length
  .have:=OJ o r h;rw[aW (by omega),kN,aW this]
  .have:=OJ r o (by omega);rw[aY (by omega),aW (by omega),kN,aY (by omega),aY (by omega)]
def Xn{v a vb s M:Nat}(b:v+4294967296^(M+1)*s=a+vb)(d:a<4294967296^M)(f:vb<4294967296^M):s=0:=by
 rw[kE]at b;generalize 4294967296^M=p at *
 obtain h|h:=Cb s
 .exact h
 .have:=Iq (p*4294967296) h;omega
def z78(l:List UInt32)(i:Nat):val l / 2^i % 2=(l.getD (i / 32) 0).toNat / 2^(i % 32) % 2:=by
 have b:val l / 2^i=val l / 4294967296^(i / 32) / 2^(i % 32):=by rw[Fm i,Mp]
 rw[b,BH];generalize val l / 4294967296^(i / 32)=x;have f:i % 32<32:=yH _ (by omega);generalize i % 32=s at *
 have h:2^s*2^(32 - s)=4294967296:=by rw[<- Nat.pow_add,show s+(32 - s)=32 by omega]
 have d:2^(32 - s)=2*2^(31 - s):=by rw[show 32 - s=31 - s+1 by omega,kE];omega
 have e:=FD x 4294967296;have a:x=x % 4294967296+2^s*(2*(2^(31 - s)*(x / 4294967296))):=by rw[<- Nat.mul_assoc 2,<- d,<- Nat.mul_assoc,h];omega
 conv=>lhs;rw[a,Ik _ _ (qU (by omega)),Me]
def Wn(x i:Nat):x / 2^i=2*(x / 2^(i+1))+x / 2^i % 2:=by rw[kE,<- Nat.div_div_eq_div_mul];omega
def YH{l:List UInt32}{i Q:Nat}(h:val l=2^(i+1)*Q)(m:i / 32<l.length) :
  (l.getD (i / 32) 0).toNat ||| 2^(i % 32)<4294967296/\∀ z:UInt32,z.toNat=(l.getD (i / 32) 0).toNat ||| 2^(i % 32)->val (l.set (i / 32) z)=2^i*(2*Q+1):=by
 have p:i % 32<32:=yH _ (by omega);have k:(l.getD (i / 32) 0).toNat=2^(i % 32+1)*(Q % 2^(31 - i % 32)):=by
  rw[BH,h,kE,Fm i];have e:4294967296^(i / 32)*2^(i % 32)*2*Q=4294967296^(i / 32)*(2^(i % 32)*2*Q):=by simp only[pS]
  rw[e,Nat.mul_div_cancel_left _ (qU (by omega)),<- Nat.pow_succ];have d:(4294967296:Nat)=2^(i % 32+1)*2^(31 - i % 32):=by rw[<- Nat.pow_add,show i % 32+1+(31 - i % 32)=32 by omega]
  rw[d,Nat.mul_mod_mul_left]
 have o:(l.getD (i / 32) 0).toNat ||| 2^(i % 32)=(l.getD (i / 32) 0).toNat+2^(i % 32):=by rw[k,oH,z49 (Ia (by omega) (by omega))]
 have b:=Mh (n:=32) (js (l.getD (i / 32) 0)) (Ia (a:=2) (by omega) p);refine⟨b,λz r=>?_⟩;have v:=GM l (i / 32) z m;rw[r,o,sF]at v;have f:4294967296^(i / 32)*2^(i % 32)=2^i:=(Fm i).symm;have j:2^i*(2*Q+1)=2^(i+1)*Q+2^i:=by rw[sF,kE,pS];omega
 rw[j,<- h,<- f];omega
def WL{v p sum A C x y d r:Nat}(f:v+p*sum=A+C)(a:x+y+sum=4294967296*d+r):v+p*r+p*4294967296*d=A+p*x+(C+p*y):=by
 have b:p*(x+y+sum)=p*(4294967296*d+r):=by rw[a]
 simp only[sF,pS]at *
 omega
def KA(a b:List UInt32)(N:a.length<=1073741824)(F:b.length<=1073741824):zS 188 [.sl (aH a),.sl (aH b)] (.sl (aH (lb (val a+val b)))):=by
 refine Sp.vz c.jq λ_=>?_;simp[g.jq];obtain⟨M,L⟩:∃ M,M=max a.length b.length:=⟨_,rfl⟩
 refine cQ (S:=λx:Nat × Nat × List UInt32=>aD [(0,.p (.sl (aH a))),(1,.p (.sl (aH b))),(5,.own 1 0 0 x.1),(6,.p (.int .u64 x.2.1)),(7,.p (.int .i64 x.1))] [(1,⟨1,aT x.2.2⟩)])
  (I:=λx=>x.2.2.length=x.1/\x.1<=M+1/\x.2.1<=1/\val x.2.2+4294967296^x.1*x.2.1=val (a.take x.1)+val (b.take x.1)) (m:=λx=>M+1 - x.1) (0,0,[]) (aA.nl 5 1 1 rfl (aA.to [0,1,5,6,7] [((1,0),1)] (by simp))) ⟨rfl,by simp,by simp,by simp⟩ ?_
 rintro⟨i,sum,f⟩ ⟨j,D,E,d⟩ R G O H;simp at j D E d;simp[g.uq];refine⟨λh=>?_,λh=>?_⟩
 .refine c8 (Gw _ _ (by omega)) rfl ?_;simp;refine c8 (Gw _ _ (by omega)) rfl ?_;simp;have r:i<=M:=by split at h<;>omega
  have w:=bH i;have l:=vk a i;have o:=vk b i;have t:=js (a.getD i 0);have u:=js (b.getD i 0);simp only[eT]at l o t u;generalize (a[i]?.getD 0).toNat=x at l t ⊢;generalize (b[i]?.getD 0).toNat=y at o u ⊢;obtain⟨z,s⟩:∃ z:UInt32,z.toNat=(x+y+sum) % 4294967296:=⟨_,oG _⟩;have A:((x:Int)+y+sum) % 18446744073709551616 / 4294967296=(((x+y+sum) / 4294967296:Nat):Int):=by omega
  have B:((x:Int)+y+sum) % 4294967296=(z.toNat:Int):=by rw[s];omega
  rw[w,A,B];refine⟨⟨by omega,by omega⟩,G (i+1,(x+y+sum) / 4294967296,f++[z]) _ (aA.to [0,1,5,6,7] [((31,0),1)] (by simp)) ⟨by simp[j],by simp only;omega,by simp only;omega,?_⟩ (by simp only;omega)⟩;simp only;rw[zD,s,j,l,o,kE];have C:x+y+sum=4294967296*((x+y+sum) / 4294967296)+(x+y+sum) % 4294967296:=by omega
  exact WL d C
 .refine H _ _ ?_;simp;have r:i=M+1:=by split at h<;>omega
  subst r;refine c8 (EH f) (lH (uF rfl rfl j.symm) pL) ?_;rw[Fo _ (by omega),Fo _ (by omega)]at d;have J:=iC (oO a) (pP (n:=4294967296) (by omega) (show a.length<=M by omega));have K:=iC (oO b) (pP (n:=4294967296) (by omega) (show b.length<=M by omega));have k:sum=0:=Xn d J K;subst k;simp;rw[Nat.mul_zero,vB]at d;rw[d]
def X1{v p a A C x y l r:Nat}(f:v+C=A+p*a)(b:x+4294967296*l=y+a+r):v+p*r+(C+p*y)=A+p*x+p*4294967296*l:=by
 have d:p*(x+4294967296*l)=p*(y+a+r):=by rw[b]
 simp only[sF,pS]at *
 omega
theorem U9{l:List UInt32}{k:Nat}(h:val l<4294967296^k):l.getD k 0=0:=by apply xC;rw[BH,yG h];rfl
def Hn(a b:List UInt32)(N:a.length<=1073741824)(t:val b<=val a):zS 190 [.sl (aH a),.sl (aH b)] (.sl (aH (lb (val a - val b)))):=by
 refine Sp.vz c.jt λ_=>?_;simp[g.jt]
 refine cQ (S:=λx:Nat × Nat × List UInt32=>aD [(0,.p (.sl (aH a))),(1,.p (.sl (aH b))),(5,.own 1 0 0 x.1),(6,.p (.int .u64 x.2.1)),(7,.p (.int .i64 x.1))] [(1,⟨1,aT x.2.2⟩)])
  (I:=λx=>x.2.2.length=x.1/\x.1<=a.length/\x.2.1<=1/\val x.2.2+val (b.take x.1)=val (a.take x.1)+4294967296^x.1*x.2.1) (m:=λx=>a.length - x.1) (0,0,[]) (aA.nl 5 1 1 rfl (aA.to [0,1,5,6,7] [((1,0),1)] (by simp))) ⟨rfl,by simp,by simp,by simp⟩ ?_
 rintro⟨i,d,f⟩ ⟨l,G,H,o⟩ R L O M;simp only at l G H o;simp[g.ut];refine⟨λh=>?_,λh=>?_⟩
 .refine c8 (Gw _ _ (by omega)) rfl ?_;simp;refine c8 (Gw _ _ (by omega)) rfl ?_;simp;have C:=bH i;have u:=vk a i;have w:=vk b i;have s:=js (a.getD i 0);have B:=js (b.getD i 0);simp only[eT]at u w s B;generalize (a[i]?.getD 0).toNat=x at u s ⊢;generalize (b[i]?.getD 0).toNat=y at w B ⊢;obtain⟨z,A⟩:∃ z:UInt32,z.toNat=(x+4294967296 - y - d) % 4294967296:=⟨_,oG _⟩;obtain⟨n,j⟩:∃ n:Nat,n=if x<y+d then 1 else 0:=⟨_,rfl⟩
  have D:(1 - ((x:Int)+4294967296 - y - d) % 18446744073709551616 / 4294967296) % 18446744073709551616=(n:Int):=by subst j;split<;>omega
  have E:((x:Int)+4294967296 - y - d) % 4294967296=(z.toNat:Int):=by rw[A];omega
  rw[C,D,E];refine⟨⟨by omega,by omega⟩,L (i+1,n,f++[z]) _ (aA.to [0,1,5,6,7] [((29,0),1)] (by simp)) ⟨by simp[l],by simp only;omega,by simp only;subst j;split<;>omega,?_⟩ (by simp only;omega)⟩;simp only;rw[zD,A,l,u,w,kE];have F:x+4294967296*n=y+d+(x+4294967296 - y - d) % 4294967296:=by subst j;split<;>omega
  generalize 4294967296^i=p at *
  generalize (x+4294967296 - y - d) % 4294967296=r at *
  exact X1 o F
 .refine M _ _ ?_;simp;have K:i=a.length:=by omega
  subst K;refine c8 (EH f) (lH (uF rfl rfl l.symm) pL) ?_;rw[lO,Q3 (oR t (oO a))]at o;have s:=oO f;rw[l]at s;have k:d=0:=by
   obtain J|J:=pR 0 d
   .have:d=1:=by omega
    subst this;omega
   .omega
  subst k;rw[Nat.mul_zero,vB]at o;simp;rw[show val f=val a - val b by omega]
def E6(a b:List UInt32)(hl:a.length<=536870912)(V:b.length<=536870912):zS 133 [.sl (aH a),.sl (aH b)] (.sl (aH (lb (val a*val b)))):=by
 refine Sp.vz c.jc λ_=>?_;have K:IntKind.i64.wrap ((a.length:Int)+b.length)=((a.length+b.length:Nat):Int):=b5;simp[g.jc,K];have r:((a.length:Int)+b.length).toNat=a.length+b.length:=by omega
 simp only[r]
 refine⟨by omega,cQ (S:=λx:Nat × List UInt32=>aD [(0,.p (.sl (aH a))),(1,.p (.sl (aH b))),(5,.own 1 0 0 (a.length+b.length)),(6,.p (.int .i64 x.1))] [(1,⟨1,aT x.2⟩)])
  (I:=λx=>x.2.length=a.length+b.length/\x.1<=a.length/\val x.2=val (a.take x.1)*val b) (m:=λx=>a.length - x.1) (0,List.replicate (a.length+b.length) 0)
  (aA.to [0,1,5,6] [((15,0),1)] (by simp)) ⟨by simp,by simp,by simp[HL]⟩ ?_⟩
 rintro⟨i,l⟩ ⟨H,Q,n⟩ R W hr Y;simp only at H Q n;simp[g.ub];refine⟨λh=>?_,λh=>?_⟩
 .refine cQ (S:=λx:Nat × Nat × List UInt32=>aD [(0,.p (.sl (aH a))),(1,.p (.sl (aH b))),(5,.own 1 0 0 (a.length+b.length)),(6,.p (.int .i64 i)),(7,.p (.int .u64 x.2.1)),(8,.p (.int .i64 x.1))] [(1,⟨1,aT x.2.2⟩)])
   (I:=λx=>x.2.2.length=a.length+b.length/\x.1<=b.length/\x.2.1<4294967296/\x.2.2.getD (i+b.length) 0=0/\val x.2.2+4294967296^i*4294967296^x.1*x.2.1=val (a.take i)*val b+4294967296^i*(a.getD i 0).toNat*val (b.take x.1)) (m:=λx=>b.length - x.1) (0,0,l)
   (aA.to [0,1,5,6,7,8] [((1,0),1)] (by simp)) ⟨by simp[H],by simp,by simp,?_,by simp[n]⟩ ?_
  .simp only;refine U9 ?_;rw[n,rM];have q1:val (a.take i)<4294967296^i:=iC (oO _) (pP (by omega) (by simp;omega));exact uG q1 (oO b)
  rintro⟨j,sum,d⟩ ⟨D,k2,k3,E,f⟩ R2 A X C;simp only at D k2 k3 f E;simp[g.t8];have t:=bH i;refine⟨λg=>?_,λg=>?_⟩
  .have u:IntKind.i64.wrap ((i:Int)+j)=((i+j:Nat):Int):=b5;have L:=bH j;rw[u,L,Int.toNat_natCast];refine bK (by omega) (bK (by omega) ⟨⟨by omega,by omega,by omega⟩,bK (by omega) ⟨⟨by omega,by omega,by omega⟩,bK (by omega) ?_⟩⟩);have F:=vk b j;have u0:=js a[i];have u1:=js b[j];have u2:=js d[i+j];have J:∀ z,val (d.set (i+j) z)+4294967296^(i+j)*d[i+j].toNat=val d+4294967296^(i+j)*z.toNat:=λz=>by have:=GM d (i+j) z (by omega);simpa only[List.getD_eq_getElem?_getD,List.getElem?_eq_getElem (show i+j<d.length by omega),Option.getD_some]using this
   have G:(a.getD i 0)=a[i]:=by simp[dF h]
   have O:(b.getD j 0)=b[j]:=by simp[dF g]
   rw[O]at F;rw[G]at f;generalize B:a[i].toNat=x at u0 f ⊢;generalize b[j].toNat=y at F u1 ⊢;generalize d[i+j].toNat=o at u2 J ⊢;have Z:x*y<=4294967295*4294967295:=mS (by omega) (by omega);obtain⟨z,k⟩:∃ z:UInt32,z.toNat=(sum+(o+x*y)) % 4294967296:=⟨_,oG _⟩;have M:((x:Int)*y+o+sum) % 18446744073709551616 / 4294967296=(((sum+(o+x*y)) / 4294967296:Nat):Int):=by
    have:((x:Int)*y)=((x*y:Nat):Int):=by simp
    rw[this];omega
   have s:((x:Int)*y+o+sum) % 4294967296=(z.toNat:Int):=by
    have:((x:Int)*y)=((x*y:Nat):Int):=by simp
    rw[this,k];omega
   rw[M,s];refine A (j+1,(sum+(o+x*y)) / 4294967296,d.set (i+j) z) _ (aA.to [0,1,5,6,7,8] [((1,0),1)] (by simp)) ⟨by simp[D],by simp only;omega,by simp only;omega,?_,?_⟩ (by simp only;omega)
   .simp only;rw[eT,List.getElem?_set_ne (by omega),<- List.getD_eq_getElem?_getD];exact E
   .simp only;have v:=J z;rw[k,rM]at v;rw[F,kE,G,B];have N:=FD (sum+(o+x*y)) 4294967296;exact Qd v f N
  .refine C _ _ ?_;have U:j=b.length:=by omega
   subst U;have u:IntKind.i64.wrap ((i:Int)+b.length)=((i+b.length:Nat):Int):=b5;simp[u,t];have w:((i:Int)+b.length).toNat=i+b.length:=by omega
   rw[w];obtain⟨z,k⟩:∃ z:UInt32,z.toNat=sum:=⟨UInt32.ofNat sum,by rw[oG];omega⟩;have s:(sum:Int) % 4294967296=(z.toNat:Int):=by rw[k];omega
   rw[s];refine⟨⟨by omega,by omega,by omega⟩,bK (by omega) ?_⟩;refine W (i+1,d.set (i+b.length) z) _ (aA.to [0,1,5,6] [((1,0),1)] (by simp)) ⟨by simp[D],by simp only;omega,?_⟩ (by simp only;omega);simp only;have v:=GM d (i+b.length) z (by omega);rw[E,k,rM]at v;rw[lO]at f;rw[vk,wi];simp only[UInt32.toNat_zero,Nat.mul_zero,vB]at v;rw[v,f]
 .refine Y _ _ ?_;simp;refine c8 (EH l) (lH (uF rfl rfl (by omega)) pL) ?_;simp;have:i=a.length:=by omega
  subst this;rw[n,lO]
end Go.Ab
