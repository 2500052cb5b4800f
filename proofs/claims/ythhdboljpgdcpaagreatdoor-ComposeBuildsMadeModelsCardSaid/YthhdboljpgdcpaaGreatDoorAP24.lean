/- Lemmas for the law ComposeBuildsMadeModels, part 24. No conditions. -/
import Derived.Test.YthhdboljpgdcpaaGreatDoorAP23
set_option maxRecDepth 100000
set_option maxHeartbeats 4000000
set_option linter.all false
namespace Go.Ab
open Enc (enc)
def KJ(a b:List UInt32)(hl:a.length<=4194304)(ad:b.length<=4194304)(hb:val b≠0)(N:gE b):zS 175 [.sl (aH a),.sl (aH b)] (.bP [.sl (aH (lb (val a / val b))),.sl (aH (lb (val a % val b)))]):=by
 refine Sp.vz c.jo λ_=>?_;have e0:IntKind.i64.wrap (32*(a.length:Int))=32*(a.length:Int):=b5;have e1:IntKind.i64.wrap (32*(a.length:Int) - 1)=32*(a.length:Int) - 1:=b5;simp[g.jo,e0,e1]
 refine⟨by omega,cQ (S:=λx:Nat × Nat × List UInt32=>aD [(0,.p (.sl (aH a))),(1,.p (.sl (aH b))),(6,.own 1 0 0 a.length),(7,.p (.sl (aH (lb x.2.1)))),(8,.p (.int .i64 ((x.1:Int) - 1)))] [(1,⟨1,aT x.2.2⟩)])
  (I:=λx=>x.2.2.length=a.length/\x.1<=32*a.length/\x.2.1<val b/\∃ Q,val x.2.2=2^x.1*Q/\val a / 2^x.1=Q*val b+x.2.1) (m:=λx=>x.1) (32*a.length,0,List.replicate a.length 0)
  ((aA.freeze (t:=7) rfl).trans (aA.to [0,1,6,7,8] [((11,0),1)] (by simp))) ⟨by simp,by simp,by simp;omega,0,by simp[HL],?_⟩ ?_⟩
 .simp only[Iv,vB];rw[SQ];exact yG (oO a)
 rintro⟨k,R,q⟩ ⟨J,h2,W,Q,H,w⟩ X Y hr hx;simp only at J h2 W H w;have l:=dP (oF (Nat.lt_trans W (oO b))) ad;obtain _|i:=k
 .simp[g.rq];refine hx _ _ ?_;simp;refine c8 (EH q) (lH (uF rfl (by simp) (by omega)) pL) ?_;simp;simp only[Nat.pow_zero,Nat.one_mul,Nat.div_one]at H w;have q1:val a / val b=val q:=by rw[w,H,oH,Nat.mul_add_div (by omega),yG W];omega
  have q2:val a % val b=R:=by rw[w,oH,Nat.mul_add_mod,uI W]
  rw[q1,q2];exact⟨rfl,rfl⟩
 .simp[g.rq];refine c8 (KA (lb R) (lb R) (by omega) (by omega)) rfl ?_;simp;have hw:IntKind.i64.wrap ((i:Int) / 32)=((i / 32:Nat):Int):=by rw[cG (by omega) (by omega)];omega
  have hm:(i:Int).tmod 32=((i % 32:Nat):Int):=HP i 32;have E:((i % 32:Nat):Int) % 18446744073709551616=((i % 32:Nat):Int):=by omega
  have F:((i % 32:Nat):Int).toNat.min 32=i % 32:=wc (by rw[kQ];omega);rw[hw,hm,E,F,kQ];have B:=z78 a i;have r:=Wn (val a) i;have o:=YH H (by omega);have O:i / 32<a.length:=by omega
  have ga:(a.getD (i / 32) 0)=a[i / 32]:=by simp[dF O]
  rw[ga]at B;refine bK O ⟨by omega,by omega,?_⟩;have U:=js a[i / 32];generalize a[i / 32]=x at B U ⊢;have he:((x.toNat:Int) / 2^(i % 32))=((x.toNat / 2^(i % 32):Nat):Int):=by simp
  have M:=yb9 (x:=x.toNat / 2^(i % 32)) (y:=1) (oR (Bd _ _) U) (by omega);rw[Nat.and_one_is_mod,show((1:Nat):Int)=1 from rfl]at M;rw[he,M,<- B];have u:IntKind.i64.wrap ((i:Int) - 1)=(i:Int) - 1:=b5;have af:(val a / 2^i % 2=0)\/(val a / 2^i % 2=1):=by omega
  refine⟨λal=>?_,λag=>?_⟩
  .refine c8 (KA (lb (R+R)) [1] (by have:=CV (m:=R) (n:=R) l l;omega) (by simp)) (lH rfl (lH (uF rfl (by simp) (by simp)) pL)) ?_;obtain⟨f,d⟩:∃ f,R+R+1=f:=⟨_,rfl⟩;have K:val a / 2^i % 2=1:=by omega
   simp[d];have L:(lb f).length<=4194305:=by
    have:=CV l l;have:=CV (m:=R+R) (n:=1) (a:=4194305) (by omega) (by rw[By];simp)
    first|(rw[<- d];have h:=oF (n:=R+R+1) (k:=b.length+1) (by have:=oO b;rw[kE];omega);omega)|(rw[<- d];omega)
   refine c8 (Lb (lb f) b (by omega) (by omega) (tT _) N) rfl ?_;simp[HA];refine⟨λC=>?_,λD=>?_⟩
   .refine c8 (Hn (lb f) b (by omega) (by simpa using C)) rfl ?_;simp;rw[hw,hm,E,F,Int.toNat_natCast,u];have j:i / 32<q.length:=by omega
    have Z:(q.getD (i / 32) 0)=q[i / 32]:=by simp[dF j]
    rw[Z]at o;obtain⟨z,V⟩:∃ z:UInt32,z.toNat=q[i / 32].toNat ||| 2^(i % 32):=⟨UInt32.ofNat _,by rw[oG,uI o.1]⟩;have A:=E2 (s:=i % 32) (yH _ (by omega));have G:((2:Int)^(i % 32) % 4294967296)=((2^(i % 32):Nat):Int):=by
     have:((2:Int)^(i % 32))=((2^(i % 32):Nat):Int):=by simp
     rw[this];generalize 2^(i % 32)=p at A ⊢;omega
    have ho:=RL (x:=q[i / 32].toNat) (y:=2^(i % 32)) (js _) (by omega);rw[G];refine⟨⟨by omega,by omega,by omega⟩,bK j ⟨by omega,⟨by omega,by omega,by omega⟩,bK j ?_⟩⟩;rw[ho,<- V];refine Y (i,f - val b,q.set (i / 32) z) _ (aA.to [0,1,6,7,8] [((1,0),1)] (by simp)) ⟨by simp[J],by simp only;omega,by simp only;omega,2*Q+1,?_,?_⟩ (by simp)
    .simp only;exact o.2 z V
    .simp only;rw[r,w,K,wi,pS,sF];omega
   .refine Y (i,f,q) _ (aA.to [0,1,6,7,8] [((1,0),1)] (by simp[u])) ⟨J,by simp only;omega,D,2*Q,?_,?_⟩ (by simp)
    .simp only;rw[H,kE,pS]
    .simp only;rw[r,w,K,<- d,sF,pS];omega
  .obtain⟨f,d⟩:∃ f,R+R=f:=⟨_,rfl⟩;have K:val a / 2^i % 2=0:=by omega
   simp[d];have L:(lb f).length<=4194305:=by
    have:=CV l l;have:=CV (m:=R+R) (n:=1) (a:=4194305) (by omega) (by rw[By];simp)
    first|(rw[<- d];have h:=oF (n:=R+R+1) (k:=b.length+1) (by have:=oO b;rw[kE];omega);omega)|(rw[<- d];omega)
   refine c8 (Lb (lb f) b (by omega) (by omega) (tT _) N) rfl ?_;simp[HA];refine⟨λC=>?_,λD=>?_⟩
   .refine c8 (Hn (lb f) b (by omega) (by simpa using C)) rfl ?_;simp;rw[hw,hm,E,F,Int.toNat_natCast,u];have j:i / 32<q.length:=by omega
    have Z:(q.getD (i / 32) 0)=q[i / 32]:=by simp[dF j]
    rw[Z]at o;obtain⟨z,V⟩:∃ z:UInt32,z.toNat=q[i / 32].toNat ||| 2^(i % 32):=⟨UInt32.ofNat _,by rw[oG,uI o.1]⟩;have A:=E2 (s:=i % 32) (yH _ (by omega));have G:((2:Int)^(i % 32) % 4294967296)=((2^(i % 32):Nat):Int):=by
     have:((2:Int)^(i % 32))=((2^(i % 32):Nat):Int):=by simp
     rw[this];generalize 2^(i % 32)=p at A ⊢;omega
    have ho:=RL (x:=q[i / 32].toNat) (y:=2^(i % 32)) (js _) (by omega);rw[G];refine⟨⟨by omega,by omega,by omega⟩,bK j ⟨by omega,⟨by omega,by omega,by omega⟩,bK j ?_⟩⟩;rw[ho,<- V];refine Y (i,f - val b,q.set (i / 32) z) _ (aA.to [0,1,6,7,8] [((1,0),1)] (by simp)) ⟨by simp[J],by simp only;omega,by simp only;omega,2*Q+1,?_,?_⟩ (by simp)
    .simp only;exact o.2 z V
    .simp only;rw[r,w,K,wi,pS,sF];omega
   .refine Y (i,f,q) _ (aA.to [0,1,6,7,8] [((1,0),1)] (by simp[u])) ⟨J,by simp only;omega,D,2*Q,?_,?_⟩ (by simp)
    .simp only;rw[H,kE,pS]
    .simp only;rw[r,w,K,<- d,sF,pS];omega
def Px(a b:List UInt32)(w:a.length<=4194304)(k:b.length<=4194304)(t:gE a)(u:gE b):zS 174 [.sl (aH a),.sl (aH b)] (.sl (aH (lb (Nat.gcd (val a) (val b))))):=by
 refine Sp.vz c.jn λ_=>?_;simp[g.jn];refine cQ (S:=λx:List UInt32 × List UInt32=>aD [(0,.p (.sl (aH x.1))),(1,.p (.sl (aH x.2)))] []) (I:=λx=>x.1.length<=4194304/\x.2.length<=4194304/\gE x.1/\gE x.2/\Nat.gcd (val x.1) (val x.2)=Nat.gcd (val a) (val b)) (m:=λx=>val x.2) (a,b) (aA.of (keep:=[0,1]) (ids:=[]) rfl) ⟨w,k,t,u,rfl⟩ ?_;rintro⟨x,y⟩ ⟨l,j,n,f,i⟩ R z B A;simp at l j n f i;simp[g.uj];refine⟨λh=>?_,λh=>A _ _ ?_⟩
 .have r:val y≠0:=λs=>by rw[<- vY f,s]at h;simp at h
  refine c8 (KJ x y l j r f) rfl ?_;simp;have d:=Nat.mod_lt (val x) (Nat.pos_of_ne_zero r);have o:=oF (Nat.lt_trans d (oO y));refine z (y,lb (val x % val y)) _ (aA.of (keep:=[0,1]) (ids:=[]) rfl) ⟨j,by simp only;omega,f,tT _,?_⟩ (by simpa using d);simp only[CO];rw[<- i,Nat.gcd_comm (val x),Nat.gcd_rec (val y) (val x),Nat.gcd_comm]
 .subst h;simp at i;simp;rw[<- i,vY n]
def CH(x:aS):zS 134 [enc x] (.sl (aH (if x.den=[]then[(1:UInt32)]else x.den))):=by refine Sp.vz c.jd λ_=>?_;simp[g.jd];refine⟨λh=>by simp[h],λh=>by simp[h]⟩
def EX(f:Fr)(hd:f.d≠0)(m:f.e.sm 4194304):zS 132 [.bool f.neg,.sl (aH (lb f.n)),.sl (aH (lb f.d))] (enc (cH f.v)):=by
 obtain⟨b,j⟩:=m;simp only[Fr.e]at b j;refine Sp.vz c.fj λ_=>?_;simp[g.fj];refine⟨λh=>?_,λh=>?_⟩
 .simp[K8 h,xh]
 .have o:=Mb f.d (B6 h);refine c8 (Px _ _ b j (tT _) (tT _)) rfl ?_;have a:(lb (Nat.gcd f.n f.d)).length<=4194304:=by refine dP (oF (n:=Nat.gcd f.n f.d) (k:=(lb f.n).length) ?_) b;exact oR (Nat.gcd_le_left _ (B6 h)) (uA _)
  rw[z32 hd h];simp;refine c8 (KJ (lb f.n) (lb (Nat.gcd f.n f.d)) b a (by simp;omega) (tT _)) rfl ?_;simp;refine c8 (KJ (lb f.d) (lb (Nat.gcd f.n f.d)) j a (by simp;omega) (tT _)) rfl ?_;simp;refine c8 (C4 _) rfl ?_;have i:(lb (f.d / Nat.gcd f.n f.d)=[1]) ↔ f.d / Nat.gcd f.n f.d=1:=⟨λh=>by have:=congrArg val h;simpa using this,λh=>by rw[h,By]⟩;simp[i];refine⟨λl=>?_,λl=>?_⟩<;>simp[l]
def P'(v:Int)(a : -9223372036854775808<=v)(b:v<=9223372036854775807):zS 138 [.int .i64 v] (.int .u64 v.natAbs):=by refine Sp.vz c.mh λ_=>?_;simp[g.mh];refine⟨λh=>?_,λh=>by omega⟩;rw[cG (n:=v+1) (by omega) (by omega),cG (by omega) (by omega)];omega
def AW{a:List UInt32}(h:0<a.length):(a[a.length - 1].toNat=0) ↔ ¬ gE a:=by simp only[gE,List.getLast?_eq_getElem?,List.getElem?_eq_getElem (show a.length - 1<a.length by omega)];simp;exact⟨λh=>xC (by simpa using h),λh=>by rw[h];rfl⟩
def Rg(l:List UInt32)(h:gE l):l=[1] ↔ val l=1:=⟨λh=>by rw[h];rfl,λa=>by rw[<- vY h,a,By]⟩
def Hk(x:aS)(w:x.sm 4194304):zS 155 [enc x] (.bool x.valid):=by
 obtain⟨t,u⟩:=w;have en:IntKind.i64.wrap ((x.num.length:Int) - 1)=(x.num.length:Int) - 1:=b5;have s:IntKind.i64.wrap ((x.den.length:Int) - 1)=(x.den.length:Int) - 1:=b5;have l:((x.num.length:Int) - 1).toNat=x.num.length - 1:=by omega
 have k:((x.den.length:Int) - 1).toNat=x.den.length - 1:=by omega
 refine Sp.vz c.bm λ_=>?_;by_cases i:x.num=[]
 .by_cases d:x.den=[]
  .simp[g.bm,i,d];refine c8 (C4 []) rfl ?_;simp;rw[E8];refine⟨λh=>?_,λh=>?_⟩<;>simp[aS.valid,i,d,h]
  .have a:=Ca.2 d;simp[g.bm,i,a,s,k];refine bK (by omega) ⟨by omega,λf=>?_,λf=>?_⟩
   .simp[aS.valid,(AW a).1 f]
   .have n:gE x.den:=by simpa using (mt (AW a).2) f
    refine c8 (C4 x.den) rfl ?_;simp;refine⟨λm=>by simp[aS.valid,i,d],λm=>?_⟩;rw[E8];refine⟨λh=>?_,λh=>?_⟩<;>simp[aS.valid,i,d,h]
 .have b:=Ca.2 i;by_cases d:x.den=[]
  .simp[g.bm,b,d,en,l];refine bK (by omega) ⟨by omega,λf=>?_,λf=>?_⟩
   .simp[aS.valid,(AW b).1 f]
   .have n:gE x.num:=by simpa using (mt (AW b).2) f
    refine c8 (C4 []) rfl ?_;simp[i];simp[aS.valid,i,d,n]
  .have a:=Ca.2 d;simp[g.bm,b,a,en,l,s,k];refine bK (by omega) ⟨by omega,λf=>?_,λf=>bK (by omega) ⟨by omega,λm=>?_,λm=>?_⟩⟩
   .simp[aS.valid,(AW b).1 f]
   .simp[aS.valid,(AW a).1 m]
   .have n:gE x.num:=by simpa using (mt (AW b).2) f
    have j:gE x.den:=by simpa using (mt (AW a).2) m
    refine c8 (C4 x.den) rfl ?_;simp[i,d];refine⟨λp=>?_,λp=>?_⟩
    .simp[aS.valid,i,d,(Rg _ j).1 p]
    .refine c8 (Px x.num x.den t u n j) rfl ?_;simp;refine c8 (C4 _) rfl ?_;have o:(lb ((val x.num).gcd (val x.den))=[1]) ↔ (val x.num).gcd (val x.den)=1:=⟨λh=>by have:=congrArg val h;simpa using this,λh=>by rw[h,By]⟩;have r:¬ val x.den=1:=λh=>p ((Rg _ j).2 h);simp[aS.valid,i,d,n,j,o,r]
def yA(x:aS)(a:x.sm 4194304):zS 113 [enc x] (enc (cH x.v)):=by
 refine Sp.vz c.bg λ_=>?_;simp[g.bg];refine c8 (Hk x a) rfl ?_;simp;rw[E8];refine⟨λh=>?_,λh=>?_⟩
 .have:=a.1;have:=a.2;simp[sK h];omega
 .simp[Hj h,xh]
def EU(x:aS)(f:x.sm 4194304):zS 152 [enc x] (.int .i64 (kH x.v)):=by
 refine Sp.vz c.db λ_=>?_;simp[g.db];refine c8 (yA x f) rfl ?_;have i:x.v=0 ↔ x.v.num=0:=Rat.num_eq_zero.symm;have d:0<=x.v ↔ 0<=x.v.num:=Rat.num_nonneg.symm;simp[cH,kH];rw[d];simp only[i];refine⟨λh=>?_,λh=>⟨λa=>?_,λa=>?_⟩⟩
 .rw[aY (by omega),aW h]
 .have b:x.v.num≠0:=λh=>by rw[h]at a;simp at a
  rw[aY b,aY (by omega)]
 .intro b;exact absurd a b
def ye2(x:aS)(b:x.sm 4194304):zS 351 [enc x] (enc (cH (-x.v))):=by
 refine Sp.vz c.oi λ_=>?_;simp[g.oi];refine c8 (yA x b) rfl ?_;have d:x.v=0 ↔ x.v.num=0:=Rat.num_eq_zero.symm;simp[cH];simp only[d];refine⟨λa=>?_,λa=>by omega⟩;have f:x.v.num≠0:=λh=>by rw[h]at a;simp at a
 by_cases h:x.v.num<0
 .have:¬ 0<x.v.num:=by omega
  simp[h,this]
 .have:0<x.v.num:=by omega
  simp[h,this]
def z31{x:aS}{n:Nat}(h:x.sm n):(cH x.v).sm n:=by
 by_cases a:x.valid=true
 .rw[sK a];exact h
 .rw[Hj (by simpa using a),xh];exact⟨by simp,by simp⟩
def IB(q:Rat):(gR q).e=⟨(cH q).neg,(cH q).num,if (cH q).den=[]then[1]else(cH q).den⟩:=by have:=KZ (sP q);rw[iN]at this;exact this
def Jp(x y:aS)(p:x.sm 1048576)(r:y.sm 1048576):zS 83 [enc x,enc y] (enc (cH (x.v*y.v))):=by
 have m:=sq p (by omega);have n:=sq r (by omega);have z:=JA m n;have A:(se (gR x.v) (gR y.v)).d≠0:=yE (nC _) (nC _);have o:=LR (gR x.v) (gR y.v);rw[uY,uY]at o;have k:=IB x.v;have l:=IB y.v;simp only[Fr.e,aS.mk.injEq]at k l;obtain⟨f,a,h⟩:=k;obtain⟨i,b,j⟩:=l;obtain⟨s,t⟩:=m;obtain⟨u,w⟩:=n;simp only[Fr.e]at s t u w;refine Sp.vz c.ik λ_=>?_;simp[g.ik];refine fE (yA x (p.mono (by omega))) rfl ?_;simp;refine fE (yA y (r.mono (by omega))) rfl ?_;simp;refine fE (E6 (cH x.v).num (cH y.v).num (by rw[<- a];omega) (by rw[<- b];omega)) rfl ?_;simp;refine fE (CH (cH x.v)) rfl ?_;simp;refine fE (CH (cH y.v)) rfl ?_;simp only[<- f,<- a,<- h,<- i,<- b,<- j];simp;refine fE (E6 _ _ (by omega) (by omega)) rfl ?_;simp;refine fE (EX (se (gR x.v) (gR y.v)) A (z.mono (by omega))) ?_ ?_
 .simp[se,bne]
 .simp[o]
def I9(x y:aS)(C:x.sm 1048576)(D:y.sm 1048576):zS 154 [enc x,enc y] (enc (cH (x.v+y.v))):=by
 have i:=sq C (by omega);have j:=sq D (by omega);have t:=Ew i j;have z:(iY (gR x.v) (gR y.v)).d≠0:=Eh (nC _) (nC _);have l:=Ei (f:=gR x.v) (g:=gR y.v) (nC _) (nC _);rw[uY,uY]at l;have A:=IB x.v;have B:=IB y.v;have I:=xG i.1 j.2;have J:=xG j.1 i.2;have K:=xG i.2 j.2;simp only[Fr.e,aS.mk.injEq]at A B;obtain⟨m,o,a⟩:=A;obtain⟨p,r,b⟩:=B;obtain⟨E,F⟩:=i;obtain⟨G,H⟩:=j;simp only[Fr.e]at E F G H;refine Sp.vz c.fm λ_=>?_;simp[g.fm];refine fE (yA x (C.mono (by omega))) rfl ?_;simp;refine fE (yA y (D.mono (by omega))) rfl ?_;simp;refine fE (CH (cH y.v)) rfl ?_;simp only[<- m,<- o,<- p,<- r,<- b];simp;refine fE (E6 _ _ (by omega) (by omega)) rfl ?_;simp;refine fE (CH (cH x.v)) rfl ?_;simp only[<- a];simp;refine fE (E6 _ _ (by omega) (by omega)) rfl ?_;simp;refine fE (CH (cH x.v)) rfl ?_;simp only[<- a];simp;refine fE (CH (cH y.v)) rfl ?_;simp only[<- b];simp;refine fE (E6 _ _ (by omega) (by omega)) rfl ?_;simp;generalize gR x.v=u at *
 generalize gR y.v=w at *
 refine⟨λh=>?_,λh=>?_⟩
 .refine fE (KA (lb (u.n*w.d)) (lb (w.n*u.d)) (by omega) (by omega)) rfl ?_;simp;refine fE (EX (iY u w) z (t.mono (by omega))) ?_ ?_
  .simp[h,iY]
  .simp[l]
 .refine c8 (Lb (lb (u.n*w.d)) (lb (w.n*u.d)) (by omega) (by omega) (tT _) (tT _)) rfl ?_;simp[HA];refine⟨λk=>?_,λk=>?_⟩
  .refine fE (Hn (lb (u.n*w.d)) (lb (w.n*u.d)) (by omega) (by simpa using k)) rfl ?_;simp;refine fE (EX (iY u w) z (t.mono (by omega))) ?_ ?_
   .simp[h,k,iY]
   .simp[l]
  .have s:¬ (w.n*u.d<=u.n*w.d):=Nat.not_le.2 k;refine fE (Hn (lb (w.n*u.d)) (lb (u.n*w.d)) (by omega) (by simp;omega)) rfl ?_;simp;refine fE (EX (iY u w) z (t.mono (by omega))) ?_ ?_
   .simp[h,s,iY]
   .simp[l]
def PT{x y:aS}{n:Nat}(a:x.sm n)(b:y.sm n)(hn:1<=n):(cH (x.v+y.v)).sm (n+n+1):=by have e:=Ei (f:=gR x.v) (g:=gR y.v) (nC _) (nC _);rw[uY,uY]at e;rw[<- e];exact Hi (Eh (nC _) (nC _)) (Ew (sq a hn) (sq b hn))
def PR{x y:aS}{n:Nat}(a:x.sm n)(b:y.sm n)(hn:1<=n):(cH (x.v*y.v)).sm (n+n):=by have e:=LR (gR x.v) (gR y.v);rw[uY,uY]at e;rw[<- e];exact Hi (yE (nC _) (nC _)) (JA (sq a hn) (sq b hn))
def PS{x:aS}{n:Nat}(a:x.sm n)(hn:1<=n):(cH (-x.v)).sm n:=by have e:=LS (gR x.v);rw[uY]at e;rw[<- e];exact Hi (f:=pr (gR x.v)) (nC x.v) (sq a hn)
def ydo(x y:aS)(b:x.sm 1048576)(a:y.sm 1048576):zS 306 [enc x,enc y] (enc (cH (x.v - y.v))):=by refine Sp.vz c.n8 λ_=>?_;simp[g.n8];refine fE (ye2 y (a.mono (by omega))) rfl ?_;simp;refine fE (I9 x (cH (-y.v)) b (PS a (by omega))) rfl ?_;simp[iN,SP]
def T3(x y:aS)(a:x.sm 1048576)(b:y.sm 1048576):zS 253 [enc x,enc y] (.int .i64 (kH (x.v - y.v))):=by have h:=PT a (PS b (by omega)) (by omega);rw[iN,<- Rat.sub_eq_add_neg]at h;refine Sp.vz c.nr λ_=>?_;simp[g.nr];refine c8 (ydo x y a b) rfl ?_;simp;refine c8 (EU (cH (x.v - y.v)) (h.mono (by omega))) rfl ?_;simp[iN]
def NT(x y:aS)(d:x.sm 1048576)(f:y.sm 1048576):zS 172 [enc x,enc y] (.bool (decide (x.v<y.v))):=by
 refine Sp.vz c.jl λ_=>?_;simp[g.jl];refine c8 (T3 x y d f) rfl ?_;have h:x.v<y.v ↔ (x.v - y.v).num<0:=by
  rw[Rat.lt_iff_sub_pos];have:(x.v - y.v) = -(y.v - x.v):=by rw[Rat.neg_sub]
  rw[this,Rat.neg_num];have b:0<=y.v - x.v ↔ 0<=(y.v - x.v).num:=Rat.num_nonneg.symm;have a:(y.v - x.v)=0 ↔ (y.v - x.v).num=0:=Rat.num_eq_zero.symm;rw[Rat.lt_iff_le_and_ne,b,ne_comm,Ne,a];omega
 simp only[h,kH];simp;have a:x.v - y.v=0 ↔ (x.v - y.v).num=0:=Rat.num_eq_zero.symm;simp only[a];generalize (x.v - y.v).num=z
 (repeat' split)<;>omega
def OK(x:aS)(k:Nat):zS 58 [enc x,.int .i64 k] (.bool (decide (x.num.length<=k/\x.den.length<=k))):=by refine Sp.vz c.ic λ_=>?_;simp[g.ic];exact⟨λh _=>h,λh a=>by omega⟩
def OZ(a b:List UInt32)(t:a.length<=1073741824):zS 96 [.sl (aH a),.sl (aH b)] (.bool (decide (a=b))):=by
 refine Sp.vz c.ln λ_=>?_;simp[g.ln];refine⟨λh=>?_,λh=>?_⟩
 .have h:a.length=b.length:=by omega
  refine cQ (S:=λk:Nat=>aD [(0,.p (.sl (aH a))),(1,.p (.sl (aH b))),(5,.p (.int .i64 k))] []) (I:=λk=>k<=a.length/\a.take k=b.take k) (m:=λk=>a.length - k) 0 (aA.of (keep:=[0,1,5]) (ids:=[]) rfl) ⟨by omega,by simp⟩ ?_;rintro k ⟨r,f⟩ R l n o;simp[g.tm,aD];refine⟨λi=>bK i (bK (by omega) ⟨λs=>?_,λj=>n _ ?_⟩),λi=>o _ _ ?_⟩
  .rw[cG (by omega) (by omega)];refine l (k+1) _ (aA.of (keep:=[0,1,5]) (ids:=[]) rfl) ⟨by omega,?_⟩ (by omega);rw[ed i,ed (by omega),f,xC (by omega:a[k].toNat=b[k].toNat)]
  .simp;intro d;subst d;exact j rfl
  .have:k=a.length:=by omega
   subst this;simp;rw[lO,h,lO]at f;exact f
 .intro d;subst d;exact h rfl
deriving instance DecidableEq for aS
def xi(x y:aS)(d:x.sm 1073741824):zS 45 [enc x,enc y] (.bool (decide (x=y))):=by refine Sp.vz c.ep λ_=>?_;simp[g.ep];refine⟨λh=>?_,λh a=>h (by rw[a])⟩;refine c8 (OZ _ _ d.1) rfl ?_;simp;refine⟨λb=>?_,λb a=>b (by rw[a])⟩;refine c8 (OZ _ _ d.2) rfl ?_;simp;exact⟨λf=>by cases x;cases y;simp_all,λa=>by rw[a]⟩
def yao(a b:Int)(d : -9223372036854775808<=a/\a<=9223372036854775807)(f : -9223372036854775808<=b/\b<=9223372036854775807) :
  zS 97 [.int .i64 a,.int .i64 b] (.bP [enc (if b=0 then cH 0 else cH (Rat.divInt a b)),.int .i64 (if b=0 then 11 else 0)]):=by
 have i:=oF (n:=a.natAbs) (k:=2) (by omega);have j:=oF (n:=b.natAbs) (k:=2) (by omega);refine Sp.vz c.lr λ_=>?_;simp[g.lr];refine⟨λh=>by simp[h,xh],λh=>?_⟩;refine c8 (P' a d.1 d.2) rfl ?_;simp;refine c8 (PG a.natAbs (by omega)) (by simp) ?_;simp;refine c8 (P' b f.1 f.2) rfl ?_;simp;refine c8 (PG b.natAbs (by omega)) (by simp) ?_;simp;refine c8 (EX ⟨decide (a<0) != decide (b<0),a.natAbs,b.natAbs⟩ (by simpa using h) ⟨by simp only[Fr.e];omega,by simp only[Fr.e];omega⟩) ?_ ?_
 .simp[bne]
 .simp[Ox,h]
def yn(a b:Int)(f : -9223372036854775808<=a/\a<=9223372036854775807)(h : -9223372036854775808<=b/\b<=9223372036854775807)(d:b≠0) :
  zS 46 [.int .i64 a,.int .i64 b] (enc (cH (Rat.divInt a b))):=by
 refine Sp.vz c.bf λ_=>?_;simp[g.bf];refine c8 (yao a b f h) rfl ?_;simp[d]
def jR{P:Program}{N:Nat}{Q:Exit->St->Prop}{b:GC}{ks:List Kt}{st:St}
  (h:∀ R:Exit->St->Prop,(∀ s,vL P N Q b ks s->R .normal s)->(∀ s,Q .ret s->R .ret s)->(∀ id s,gI P N Q (fS id ks) id s->R (.exit id) s)->vm P N R [.code b] st):vL P N Q b ks st:=by
 obtain⟨a,s,f,i⟩:=lG (P:=P) (N:=N) _ (dK _) (h (λa s=>(a=.normal->vL P N Q b ks s)/\(a ≠ .normal->eM P N Q ks a s)) (λs h=>⟨λ_=>h,λh=>absurd rfl h⟩)
  (λs h=>⟨λh=>(by cases h),λ_=>yz h⟩) (λid s h=>⟨λh=>(by cases h),λ_=>G1 (by simp) h (.inr ⟨id,rfl⟩)⟩))
 by_cases d:a=.normal
 .subst d;obtain⟨a,l,j,k⟩:=i.1 rfl;exact⟨a,l,.next _ _ _ _ f j,k⟩
 .exact⟨a,s,.out _ _ _ f d,i.2 d⟩
structure Ex where
 a:Int
 b:Int
 c:Int
 deriving DecidableEq
instance:Enc Ex:=⟨λx=>.agg [.int .i64 x.a,.int .i64 x.b,.int .i64 x.c],3,by decide,λ_=>rfl⟩
@[simp] theorem ynb(x:Ex):enc x=.agg [.int .i64 x.a,.int .i64 x.b,.int .i64 x.c]:=rfl
@[simp] theorem yj1:Enc.sz Ex=3:=rfl
structure aF where
 e:Ex
 aX:aS
 deriving DecidableEq
instance:Enc aF:=⟨λx=>.agg [.int .i64 x.e.a,.int .i64 x.e.b,.int .i64 x.e.c,.bool x.aX.neg,.sl (aH x.aX.num),.sl (aH x.aX.den)],6,by decide,λ_=>rfl⟩
@[simp] theorem yj4(x:aF):enc x=.agg [.int .i64 x.e.a,.int .i64 x.e.b,.int .i64 x.e.c,.bool x.aX.neg,.sl (aH x.aX.num),.sl (aH x.aX.den)]:=rfl
@[simp] theorem ygl:Enc.sz aF=6:=rfl
def Ex.cmp(x y:Ex):Int:=if x.a<y.a then -1 else if y.a<x.a then 1 else if x.b<y.b then -1 else if y.b<x.b then 1 else if x.c<y.c then -1 else if y.c<x.c then 1 else 0
def Ex.ok(x:Ex):Bool:=decide (0<=x.a/\x.a<=5/\0<=x.b/\x.b<=5/\0<=x.c/\x.c<=5/\x.a+x.b+x.c<=5)
@[simp] theorem w0:IntKind.i64.wrap 0=0:=by decide
@[simp] theorem w1:IntKind.i64.wrap 1=1:=by decide
@[simp] theorem w2:IntKind.i64.wrap 2=2:=by decide
@[simp] theorem w3:IntKind.i64.wrap 3=3:=by decide
@[simp] theorem w4:IntKind.i64.wrap 4=4:=by decide
def K'(x y:Ex):zS 153 [enc x,enc y] (.int .i64 (x.cmp y)):=by
 refine Sp.vz c.fk λ_=>?_;simp[g.fk];refine jR λR i d l=>?_;simp[g.pg];refine⟨λh=>i _ ?_,λh=>⟨λf=>d _ (by simp[Ex.cmp,f]),λf=>d _ ?_⟩⟩
 .refine jR λR i d l=>?_;simp[g.pg];refine⟨λk=>i _ ?_,λk=>⟨λf=>d _ (by simp[Ex.cmp,h,f]),λf=>d _ ?_⟩⟩
  .refine jR λR i d l=>?_;simp[g.pg];refine⟨λm=>i _ ?_,λm=>⟨λf=>d _ (by simp[Ex.cmp,h,k,f]),λf=>d _ ?_⟩⟩
   .refine jR λR i d l=>?_;simp[g.pg];refine l _ _ ?_;simp[Ex.cmp,h,k,m]
   .have:y.c<x.c:=by omega
    have j:¬ x.c<y.c:=by omega
    simp[Ex.cmp,h,k,j,this]
  .have:y.b<x.b:=by omega
   have j:¬ x.b<y.b:=by omega
   simp[Ex.cmp,h,j,this]
 .have:y.a<x.a:=by omega
  have j:¬ x.a<y.a:=by omega
  simp[Ex.cmp,j,this]
def QB(x:Ex):zS 151 [enc x] (.bool x.ok):=by
 refine Sp.vz c.jh λ_=>?_;simp[g.jh];have d:¬ (0<=x.a/\x.a<=5/\0<=x.b/\x.b<=5/\0<=x.c/\x.c<=5)->x.ok=false:=λh=>by unfold Ex.ok;exact decide_eq_false (λm=>h (by omega))
 refine jR λR i f l=>?_;simp[g.pf];refine⟨λh=>f _ (by simp[d (by omega)]),λh=>⟨λm=>f _ (by simp[d (by omega)]),λm=>i _ ?_⟩⟩;rw[cG (by omega) (by omega)];refine jR λR i f l=>?_;simp[g.pf];refine⟨λn=>f _ (by simp[d (by omega)]),λn=>⟨λj=>f _ (by simp[d (by omega)]),λj=>i _ ?_⟩⟩;rw[cG (by omega) (by omega)];refine jR λR i f l=>?_;simp[g.pf];refine⟨λo=>f _ (by simp[d (by omega)]),λo=>⟨λk=>f _ (by simp[d (by omega)]),λk=>i _ ?_⟩⟩;rw[cG (by omega) (by omega)];refine jR λR i f l=>?_;simp[g.pf];refine l _ _ ?_;simp[Ex.ok];simp[h,m,n,j,o,k]
def aF.ok(m:aF):Bool:=m.e.ok&&m.aX.valid&&decide (m.aX.v≠0)
def bM(p:List aF):Prop:=∀ i,(h:i<p.length)->p[i].ok=true/\(0<i->p[i].e.cmp (p[i - 1]'(by omega)).e<0)
noncomputable instance (p:List aF):Decidable (bM p):=Classical.propDecidable _
noncomputable def pv(p:List aF):List aF:=if bM p then p else[]
def fR(p:List aF)(n:Nat):Prop:=∀ m∈p,m.aX.sm n
def Dm(q:Rat):kH q=0 ↔ q=0:=by have a:q=0 ↔ q.num=0:=Rat.num_eq_zero.symm;unfold kH;rw[a];(repeat' split)<;>omega
def Pq(p:List aF)(hp:fR p 1048576)(F:p.length<=1073741824):zS 173 [.sl (aH p)] (.bool (decide (bM p))):=by
 refine Sp.vz c.jm λ_=>?_;simp[g.jm];refine cQ (S:=λk:Nat=>aD [(0,.p (.sl (aH p))),(3,.p (.int .i64 k))] []) (I:=λk=>k<=p.length/\∀ i,(h:i<p.length)->i<k->p[i].ok=true/\(0<i->p[i].e.cmp (p[i - 1]'(by omega)).e<0)) (m:=λk=>p.length - k) 0 (aA.of (keep:=[0,3]) (ids:=[]) rfl) ⟨by omega,λi h C=>by omega⟩ ?_;rintro k ⟨D,t⟩ R x j B;simp[g.ui,aD];refine⟨λa=>?_,λa=>B _ _ ?_⟩
 .refine bK a ?_;have b:p[k].ok=false->decide (bM p)=false:=λh=>decide_eq_false λr=>by have:=(r k a).1;rw[h]at this;cases this
  refine bF (QB p[k].e) rfl ?_;obtain h3|h3:=ju p[k].e.ok;rotate_left
  .simp[h3];refine j _ ?_;simp;simpa using b (by simp[aF.ok,h3])
  simp[h3];refine bK a ?_;have f:p[k].aX.sm 1048576:=hp _ (bV a);refine bF (Hk p[k].aX (f.mono (by omega))) rfl ?_;obtain d|d:=ju p[k].aX.valid;rotate_left
  .simp[d];refine j _ ?_;simp;simpa using b (by simp[aF.ok,d])
  simp[d];refine bK a ?_;refine bF (EU p[k].aX (f.mono (by omega))) rfl ?_;simp[Dm];refine⟨λl=>?_,λl=>?_⟩
  .refine j _ ?_;simp;simpa using b (by simp[aF.ok,l])
  have o:p[k].ok=true:=by simp[aF.ok,h3,d,l]
  have y:IntKind.i64.wrap ((k:Int) - 1)=(k:Int) - 1:=b5;have z:((k:Int) - 1).toNat=k - 1:=by omega
  have s:=bH k;have step:(0<k->p[k].e.cmp (p[k - 1]'(by omega)).e<0)->∀ i,(h:i<p.length)->i<k+1->p[i].ok=true/\(0<i->p[i].e.cmp (p[i - 1]'(by omega)).e<0):=λA i h E=>by
   by_cases n:i<k
   .exact t i h n
   .have:i=k:=by omega
    subst this;exact⟨o,A⟩
  refine⟨λu=>?_,λu=>?_⟩
  .refine bK a ?_;simp[y,z];refine bK (by omega) ⟨by omega,?_⟩;refine bF (K' p[k].e (p[k - 1]'(by omega)).e) rfl ?_;simp[s];refine⟨λw=>j _ ?_,λw=>?_⟩
   .simp;exact λr=>by have:=(r k a).2 u;omega
   .exact x (k+1) _ (aA.of (keep:=[0,3]) (ids:=[]) rfl) ⟨by omega,step λ_=>w⟩ (by omega)
  .simp[s];exact x (k+1) _ (aA.of (keep:=[0,3]) (ids:=[]) rfl) ⟨by omega,step λh=>by omega⟩ (by omega)
 .have:k=p.length:=by omega
  subst this;have:bM p:=λi h=>t i h h;simp[this]
def fR.mono{p:List aF}{m n:Nat}(h:fR p m)(k:m<=n):fR p n:=λx a=>(h x a).mono k
def C'(p:List aF)(hp:fR p 1048576)(o:p.length<=1073741824):zS 131 [.sl (aH p)] (.sl (aH (pv p))):=by
 refine Sp.vz c.fi λ_=>?_;simp[g.fi];refine bF (Pq p hp o) rfl ?_;by_cases f:bM p;rotate_left
 .simp[f,pv]
 simp[f,pv]
 refine cQ (S:=λx:Nat × List aF=>aD [(0,.p (.sl (aH p))),(3,.own 1 0 0 x.2.length),(4,.p (.int .i64 x.1))] [(1,⟨6,aT x.2⟩)]) (I:=λx=>x.1<=p.length/\x.2=p.take x.1) (m:=λx=>p.length - x.1) (0,[])
  (aA.nl 3 1 6 rfl (aA.to [0,3,4] [((1,0),1)] (by simp))) ⟨by omega,by simp⟩ ?_
 rintro⟨k,l⟩ ⟨n,b⟩ R s u t;simp at n b ⊢;have r:l.length=k:=by rw[b];simp;omega
 simp[g.t7,aD];refine⟨λa=>?_,λa=>t _ _ ?_⟩
 .refine bK a ?_
  skip
  refine bK a ?_;have i:=(f k a).1;have h:p[k].aX.valid=true:=by simp[aF.ok]at i;exact i.1.2
  refine bF (yA p[k].aX ((hp _ (bV a)).mono (by omega))) rfl ?_;rw[sK h];simp;have j:=bH k;rw[j];refine⟨by omega,s (k+1,l++[p[k]]) _ (aA.to [0,3,4] [((28,0),1)] (by simp)) ⟨by omega,?_⟩ (by simp;omega)⟩;show l++[p[k]]=p.take (k+1);rw[b,ed a]
 .have:k=p.length:=by omega
  have d:l=p:=by rw[b,this,lO]
  subst d;simp
def Tk(p:List aF):bM (pv p):=by
 unfold pv;split
 .assumption
 .intro i h;simp at h
def Tj{p:List aF}{n:Nat}(h:fR p n):fR (pv p) n:=by
 unfold pv;split
 .exact h
 .intro x a;simp at a
def Ti(p:List aF):(pv p).length<=p.length:=by unfold pv;split<;>simp
def yl{p:List aF}(h:bM p):pv p=p:=by simp[pv,h]
def pat:List aF->Ex->Nat
 | [],_=>0
 | m::p,e=>if 0<m.e.cmp e then pat p e+1 else 0
theorem Y6(p:List aF)(e:Ex):pat p e<=p.length:=by
 induction p with
 | nil=>simp[pat]
 | cons m p a=>simp only[pat];split<;>simp<;>omega
theorem Y7{p:List aF}{e:Ex}{i:Nat}(h:i<pat p e):∃ h:i<p.length,0<p[i].e.cmp e:=by
 induction p generalizing i with
 | nil=>simp[pat]at h
 | cons m p d =>
  simp only[pat]at h;split at h
  .rename_i b;cases i with
   | zero=>exact⟨by simp,by simpa using b⟩
   | succ i=>obtain⟨f,a⟩:=d (by omega:i<pat p e);exact⟨by simp;omega,by simpa using a⟩
  .omega
theorem Y5{p:List aF}{e:Ex}(h:pat p e<p.length):¬ 0<p[pat p e].e.cmp e:=by
 induction p with
 | nil=>simp at h
 | cons m p b =>
  by_cases a:0<m.e.cmp e
  .have:pat (m::p) e=pat p e+1:=by simp[pat,a]
   simp only[this,List.getElem_cons_succ];exact b (by simp[this]at h;omega)
  .have:pat (m::p) e=0:=by simp[pat,a]
   simp only[this,Ma];exact a
def yad{p:List aF}{e:Ex}{k:Nat}(j:k<=p.length)(d:∀ i,(h:i<p.length)->i<k->0<p[i].e.cmp e)(f:∀ h:k<p.length,¬ 0<p[k].e.cmp e):k=pat p e:=by
 obtain h|h|h:=Mk k (pat p e)
 .obtain⟨a,b⟩:=Y7 h;exact absurd b (f a)
 .exact h
 .have:=Y6 p e;exact absurd (d _ (by omega) h) (Y5 (by omega))
def eP(p:List aF)(e:Ex)(q:Rat):List aF :=
 if e.ok=false\/q=0 then p else
 match p[pat p e]? with
 | none=>p++[⟨e,cH q⟩]
 | some m=>if m.e=e then(if q+m.aX.v=0 then p.take (pat p e)++p.drop (pat p e+1)else p.take (pat p e)++⟨e,cH (q+m.aX.v)⟩::p.drop (pat p e+1))else p.take (pat p e)++⟨e,cH q⟩::p.drop (pat p e)
def Ex.tG{x y:Ex}:x.cmp y=0 ↔ x=y:=by unfold Ex.cmp;obtain⟨a,b,c⟩:=x;obtain⟨d,f,h⟩:=y;simp only[Ex.mk.injEq];(repeat' split)<;>omega
def Gx{α : Type}[Enc α]{n:Nat}{st:St}{es:List AV}{l a:List α}(h:es=aT l)(k:l=a):es.mapM (bE st (n+1))=some (aH a):=by rw[h,k,G2]
attribute [local simp] fX bL.aR
def JQ(p:List aF)(m:aF)(hp:fR p 1048576)(K:p.length<=1073741823)(y:m.aX.sm 1048576)(D:m.aX.valid=true):zS 112 [.sl (aH p),enc m] (.sl (aH (eP p m.e m.aX.v))):=by
 refine Sp.vz c.ff λ_=>?_;simp[g.ff];refine bF (QB m.e) rfl ?_;obtain h3|h3:=ju m.e.ok;rotate_left
 .simp[h3,eP]
 simp[h3];refine bF (EU m.aX (y.mono (by omega))) rfl ?_;simp[Dm];refine⟨λj=>by simp[j,eP],λj=>?_⟩
 refine cQ (S:=λk:Nat=>aD [(0,.p (.sl (aH p))),(3,.ptr 1 0 0 0),(5,.p (.int .i64 k))] [(1,⟨6,[.p (enc m)]⟩)]) (I:=λk=>k<=p.length/\∀ i,(h:i<p.length)->i<k->0<p[i].e.cmp m.e) (m:=λk=>p.length - k) 0
  (aA.to [0,3,5] [((3,0),1)] (by simp)) ⟨by omega,λi h j=>by omega⟩ ?_
 rintro k ⟨t,B⟩ R H L E;have A:=bH k;have f:(∀ h:k<p.length,¬ 0<p[k].e.cmp m.e)->R (.exit 0) (aD [(0,.p (.sl (aH p))),(3,.ptr 1 0 0 0),(5,.p (.int .i64 k))] [(1,⟨6,[.p (enc m)]⟩)]):=by
  intro F;refine E _ _ ?_;have o:=yad t B F;have b:min k p.length=k:=wc t;simp[aD,t];refine⟨by omega,λG=>?_,λG=>?_⟩
  .refine⟨by omega,by omega,by omega,?_⟩;have C:p.drop k=[]:=by rw[List.drop_eq_nil_iff];omega
   refine Gx (l:=p++[m]) ?_ ?_
   .rw[fK (by simp[C];omega),C,show p.take k=p by rw[fK (by omega)]];simp
   .have r:p[k]?=none:=by rw[List.getElem?_eq_none_iff];omega
    simp[eP,h3,j,<- o,r,sK D]
  have a:k<p.length:=by omega
  refine bK a ?_;refine bF (K' p[k].e m.e) rfl ?_;simp;have z:(p.drop k).take (p.length - k)=p[k]::p.drop (k+1):=by rw[fK (by simp),vw a]
  have r:p[k]?=some p[k]:=dF a;refine⟨λw=>?_,λw=>?_⟩
  .have d:=Ex.tG.1 w;refine bK a ?_;refine bF (I9 m.aX p[k].aX y (hp _ (bV a))) rfl ?_;simp;refine bF (EU (cH (m.aX.v+p[k].aX.v)) ((PT y (hp _ (bV a)) (by omega)).mono (by omega))) rfl ?_;rw[iN];simp[Dm,b,A];have s:(p.drop (k+1)).take (p.length - (k+1))=p.drop (k+1):=by rw[fK (by simp)]
   rw[s];refine⟨λn=>⟨⟨by omega,by omega⟩,by omega,Gx (l:=p.take k++p.drop (k+1)) ?_ ?_⟩,λn=>⟨by omega,⟨by omega,by omega⟩,by omega,by omega,Gx (l:=p.take k++⟨m.e,cH (m.aX.v+p[k].aX.v)⟩::p.drop (k+1)) ?_ ?_⟩⟩
   .rw[fK (by simp;omega)];simp
   .simp[eP,h3,j,<- o,r,d,n]
   .rw[fK (by simp;omega)];simp
   .simp[eP,h3,j,<- o,r,d,n]
  .refine⟨⟨b.symm,by omega⟩,t,⟨b.symm,by omega⟩,by omega,?_⟩;rw[z];refine Gx (l:=p.take k++m::p[k]::p.drop (k+1)) ?_ ?_
   .rw[fK (by simp;omega)];simp
   .have d:p[k].e≠m.e:=λh=>w (Ex.tG.2 h);simp[eP,h3,j,<- o,r,sK D,d]
 clear E;simp[g.tt,aD]at f ⊢;refine⟨λo=>?_,λo=>f λh=>by omega⟩;refine bK o ?_;refine bF (K' p[k].e m.e) rfl ?_;simp[A];refine⟨λu=>H (k+1) _ (aA.to [0,3,5] [((1,0),1)] (by simp)) ⟨by omega,λi h J=>?_⟩ (by omega),λu=>f λ_=>u⟩;by_cases x:i<k
 .exact B i h x
 .have:i=k:=by omega
  subst this;exact u
end Go.Ab
namespace Go.Ab
open Enc (enc)
def qb(D B:Nat)(q:Rat):Prop:=∃ a:Int,q=mkRat a D/\a.natAbs<=B
def Gk{D B f:Nat}{x y:Rat}(h:qb D B x)(i:qb D f y)(d:D≠0):qb D (B+f) (x+y):=by obtain⟨a,rfl,j⟩:=h;obtain⟨b,rfl,k⟩:=i;refine⟨a+b,?_,by omega⟩;rw[Rat.mkRat_add_mkRat _ _ d d,<- Int.add_mul,Rat.mkRat_mul_right d]
def To{D f B d:Nat}{x y:Rat}(j:qb D B x)(k:qb f d y):qb (D*f) (B*d) (x*y):=by
 obtain⟨a,rfl,h⟩:=j;obtain⟨b,rfl,i⟩:=k;refine⟨a*b,?_,?_⟩
 .rw[Rat.mkRat_mul_mkRat]
 .rw[Int.natAbs_mul];exact mS h i
def C8{D B:Nat}{x:Rat}(k:Nat)(d:k≠0)(f:qb D B x):qb (D*k) (B*k) x:=by
 obtain⟨a,rfl,b⟩:=f;refine⟨a*k,?_,?_⟩
 .rw[Rat.mkRat_mul_right d]
 .rw[Int.natAbs_mul];exact mS b (by simp)
def CX(D:Nat):qb D 0 0:=⟨0,by simp,by simp⟩
def qA{D B b:Nat}{x:Rat}(h:qb D B x)(k:B<=b):qb D b x:=by obtain⟨a,e,h⟩:=h;exact⟨a,e,by omega⟩
def Fw{D B n:Nat}{x:Rat}(h:qb D B x)(b:D≠0)(i:D<4294967296^n)(j:B<4294967296^n):(cH x).sm n:=by
 obtain⟨a,rfl,h⟩:=h;have d:(mkRat a D).num.natAbs<=B:=by rw[Rat.num_mkRat,aY b];exact dP (Int.natAbs_ediv_le_natAbs _ _) h
 have f:(mkRat a D).den<=D:=by rw[Rat.den_mkRat,aY b];exact Bd _ _
 refine⟨oF (oR d j),?_⟩;show(if (mkRat a D).den=1 then[]else lb (mkRat a D).den).length<=n;split
 .simp
 .exact oF (oR f i)
def Ex.code(e:Ex):Int:=e.a*36+e.b*6+e.c
def Ex.bW{e:Ex}:e.ok=true ↔ (0<=e.a/\e.a<=5/\0<=e.b/\e.b<=5/\0<=e.c/\e.c<=5/\e.a+e.b+e.c<=5):=by simp[Ex.ok]
def Ex.Ap{e:Ex}(h:e.ok=true):0<=e.code/\e.code<216:=by rw[Ex.bW]at h;unfold Ex.code;omega
def Ex.mA{x y:Ex}(a:x.ok=true)(b:y.ok=true):x.cmp y<0 ↔ x.code<y.code:=by rw[Ex.bW]at a b;unfold Ex.cmp Ex.code;(repeat' split)<;>omega
def Ex.vN{x y:Ex}(a:x.ok=true)(b:y.ok=true):0<x.cmp y ↔ y.code<x.code:=by rw[Ex.bW]at a b;unfold Ex.cmp Ex.code;(repeat' split)<;>omega
def Ex.mr{x y:Ex}(d:x.ok=true)(f:y.ok=true):x.code=y.code ↔ x=y:=by rw[Ex.bW]at d f;unfold Ex.code;obtain⟨a,b,c⟩:=x;obtain⟨h,i,j⟩:=y;simp only[Ex.mk.injEq]at *;omega
def iq{p:List aF}:bM p ↔ (∀ m∈p,m.ok=true)/\p.Pairwise (λx y=>y.e.code<x.e.code):=by
 have a:∀ {m:aF},m.ok=true->m.e.ok=true:=λh=>by simp[aF.ok]at h;exact h.1.1
 constructor
 .intro h;have b:∀ m∈p,m.ok=true:=λm s=>by obtain⟨i,f,rfl⟩:=H' s;exact(h i f).1
  refine⟨b,L'.2 λi j f n l=>?_⟩;obtain⟨d,rfl⟩:∃ d,j=i+1+d:=⟨j - i - 1,by omega⟩;clear l
  induction d with
  | zero =>
   have:=(h (i+1) n).2 (by omega);exact(Ex.mA (a (b _ (bV _))) (a (b _ (bV _)))).1 this
  | succ d t =>
   have k:=t (by omega);have o:=(h (i+1+(d+1)) n).2 (by omega);have r:=(Ex.mA (a (b _ (bV _))) (a (b _ (bV _)))).1 o;exact Int.lt_trans r k
 .rintro⟨b,k⟩ i f;refine⟨b _ (bV f),λu=>?_⟩;refine(Ex.mA (a (b _ (bV _))) (a (b _ (bV _)))).2 ?_;exact L'.1 k (i - 1) i (by omega) f (by omega)
def pc:List aF->Ex->Rat
 | [],_=>0
 | m::p,e=>(if m.e=e then m.aX.v else 0)+pc p e
theorem Dk(p q:List aF)(e:Ex):pc (p++q) e=pc p e+pc q e:=by
 induction p with
 | nil=>simp[pc,Bc]
 | cons m p a=>simp[pc,a,yK]
theorem CW{p:List aF}{e:Ex}(h:∀ m∈p,m.e≠e):pc p e=0:=by
 induction p with
 | nil=>rfl
 | cons m p b=>simp only[pc,aY (h m (by simp)),Bc];exact b λx a=>h x (by simp[a])
def AJ{m:aF}{p:List aF}(h:bM (m::p)):pc (m::p) m.e=m.aX.v:=by have:=iq.1 h;simp only[pc,cB];rw[CW,pO];intro x b a;have:=(mM.1 this.2).1 x b;rw[a]at this;omega
def bM.tail{m:aF}{p:List aF}(h:bM (m::p)):bM p:=by have:=iq.1 h;exact iq.2 ⟨λx a=>this.1 x (by simp[a]),(mM.1 this.2).2⟩
theorem GP{p q:List aF}(hp:bM p)(d:bM q)(h:∀ e,pc p e=pc q e):p=q:=by
 have b:∀ {m:aF},m.ok=true->m.e.ok=true/\m.aX.valid=true/\m.aX.v≠0:=λh=>by simp[aF.ok]at h;exact⟨h.1.1,h.1.2,h.2⟩
 induction p generalizing q with
 | nil =>
  cases q with
  | nil=>rfl
  | cons m q =>
   have:=h m.e;rw[AJ d]at this;exact absurd this.symm (b ((iq.1 d).1 m (by simp))).2.2
 | cons m p s =>
  cases q with
  | nil =>
   have:=h m.e;rw[AJ hp]at this;exact absurd this (b ((iq.1 hp).1 m (by simp))).2.2
  | cons i q =>
   have l:=b ((iq.1 hp).1 m (by simp));have n:=b ((iq.1 d).1 i (by simp));have k:m.e=i.e:=by
    obtain j|j|j:=Int.lt_trichotomy m.e.code i.e.code
    .have:=h i.e;rw[AJ d,CW]at this
     .exact absurd this.symm n.2.2
     .intro x f a;obtain rfl|f:=bY.1 f
      .rw[a]at j;omega
      .have:=(mM.1 (iq.1 hp).2).1 x f;rw[a]at this;omega
    .exact(Ex.mr l.1 n.1).1 j
    .have:=h m.e;rw[AJ hp,CW]at this
     .exact absurd this l.2.2
     .intro x f a;obtain rfl|f:=bY.1 f
      .rw[a]at j;omega
      .have:=(mM.1 (iq.1 d).2).1 x f;rw[a]at this;omega
   have o:m.aX=i.aX:=by have:=h m.e;rw[AJ hp,k,AJ d]at this;rw[<- sK l.2.1,<- sK n.2.1,this]
   have r:m=i:=by cases m;cases i;simp at k o;simp[k,o]
   subst r
   congr 1
   refine s hp.tail d.tail λe=>?_;have:=h e;simp only[pc]at this;exact Rat.add_left_cancel _ this
def pins:List aF->Ex->Rat->List aF
 | [],e,q=>[⟨e,cH q⟩]
 | m::p,e,q=>if 0<m.e.cmp e then m::pins p e q else if m.e=e then(if q+m.aX.v=0 then p else⟨e,cH (q+m.aX.v)⟩::p)else⟨e,cH q⟩::m::p
def Hg(p:List aF)(e:Ex)(q:Rat):eP p e q=if e.ok=false\/q=0 then p else pins p e q:=by
 unfold eP;split
 .rfl
 .rename_i h
  induction p with
  | nil=>simp[pat,pins]
  | cons m p b =>
   by_cases a:0<m.e.cmp e
   .simp only[pat,aW a,List.getElem?_cons_succ,FH,Mn,pins,<- b];cases p[pat p e]? with
    | none=>simp
    | some x=>simp only[xq];(repeat' split)<;>rfl
   .simp[pat,pins,a]
def aF.bW{m:aF}:m.ok=true ↔ m.e.ok=true/\m.aX.valid=true/\m.aX.v≠0:=by simp[aF.ok,and_assoc]
theorem VC{p:List aF}{e:Ex}{q:Rat}{x:aF}(h:x∈pins p e q):x.e=e\/x∈p:=by
 induction p with
 | nil=>simp[pins]at h;exact .inl (by rw[h])
 | cons m p a =>
  simp only[pins]at h;split at h
  .obtain rfl|h:=bY.1 h
   .exact .inr (by simp)
   .obtain h|h:=a h
    .exact .inl h
    .exact .inr (by simp[h])
  .split at h
   .split at h
    .exact .inr (by simp[h])
    .obtain rfl|h:=bY.1 h
     .exact .inl rfl
     .exact .inr (by simp[h])
   .obtain rfl|h:=bY.1 h
    .exact .inl rfl
    .exact .inr h
theorem VD{p:List aF}{e:Ex}{q:Rat}(hp:bM p)(i:e.ok=true)(o:q≠0):bM (pins p e q):=by
 have d:∀ {r:Rat},r≠0->(⟨e,cH r⟩:aF).ok=true:=λ{r} h=>aF.bW.2 ⟨i,sP r,by rw[iN];exact h⟩
 induction p with
 | nil=>exact iq.2 ⟨λm n=>by simp[pins]at n;rw[n];exact d o,by simp[pins]⟩
 | cons m p s =>
  have h:=iq.1 hp;have l:=(aF.bW.1 (h.1 m (by simp))).1;have j:=(mM.1 h.2).1;simp only[pins];split
  .rename_i k;have f:=iq.1 (s hp.tail);refine iq.2 ⟨λx a=>?_,mM.2 ⟨λx a=>?_,f.2⟩⟩
   .obtain rfl|a:=bY.1 a
    .exact h.1 x (by simp)
    .exact f.1 x a
   .obtain b|b:=VC a
    .rw[b];exact(Ex.vN l i).1 k
    .exact j x b
  .rename_i k;split
   .rename_i f;split
    .exact hp.tail
    .rename_i b;refine iq.2 ⟨λx a=>?_,mM.2 ⟨λx a=>?_,(iq.1 hp.tail).2⟩⟩
     .obtain rfl|a:=bY.1 a
      .exact d b
      .exact h.1 x (by simp[a])
     .have:=j x a;rw[f]at this;exact this
   .rename_i f;have b:m.e.code<e.code:=by have t:¬ (e.code<m.e.code):=λh=>k ((Ex.vN l i).2 h);have u:¬ (m.e.code=e.code):=λh=>f ((Ex.mr l i).1 h);omega
    refine iq.2 ⟨λx a=>?_,mM.2 ⟨λx a=>?_,h.2⟩⟩
    .obtain rfl|a:=bY.1 a
     .exact d o
     .exact h.1 x a
    .obtain rfl|a:=bY.1 a
     .exact b
     .exact Int.lt_trans (j x a) b
theorem ZP(p:List aF)(e:Ex)(q:Rat)(a:Ex):pc (pins p e q) a=pc p a+if e=a then q else 0:=by
 induction p with
 | nil=>simp only[pins,pc,iN,pO,Bc]
 | cons m p f =>
  simp only[pins];split
  .simp only[pc,f,yK]
  .split
   .rename_i h;split
    .rename_i d;simp only[pc,h];by_cases b:e=a
     .simp only[aW b];rw[Bb (m.aX.v) (pc p a),yK,Bb m.aX.v q,d,pO]
     .simp[b,Bc,pO]
    .simp only[pc,h,iN];by_cases b:e=a
     .simp only[aW b];rw[Bb q m.aX.v,yK,yK,Bb q (pc p a)]
     .simp[b,Bc,pO]
   .simp only[pc,iN];rw[Bb]
def G8{p:List aF}(e:Ex)(q:Rat)(hp:bM p):bM (eP p e q):=by
 rw[Hg];split
 .exact hp
 .rename_i h;exact VD hp (by obtain a|a:=ju e.ok;exact a;exact absurd (.inl a) h) (λa=>h (.inr a))
def Ju(p:List aF)(e:Ex)(q:Rat)(a:Ex):pc (eP p e q) a=pc p a+if e.ok=true/\e=a then q else 0:=by
 rw[Hg];split
 .rename_i h;obtain h|h:=h
  .simp[h,pO]
  .simp[h,pO]
 .rename_i h;have:e.ok=true:=by obtain b|b:=ju e.ok;exact b;exact absurd (.inl b) h
  rw[ZP];simp[this]
def qS{p:List aF}(h:bM p):p.length<=216:=by
 have b:=iq.1 h;have:∀ (p:List aF) (n:Int),(∀ m∈p,0<=m.e.code/\m.e.code<n)->p.Pairwise (λx y=>y.e.code<x.e.code)->(p.length:Int)<=n\/p=[]:=by
  intro p
  induction p with
  | nil=>intro n _ _;exact .inr rfl
  | cons m p l =>
   intro n a j;have d:=mM.1 j;rcases l m.e.code (λx i=>⟨(a x (by simp[i])).1,d.1 x i⟩) d.2 with f|f
   .have:=a m (by simp);left;simp;omega
   .have:=a m (by simp);left;subst f;simp;omega
 obtain a|a:=this p 216 (λm k=>Ex.Ap (aF.bW.1 (b.1 m k)).1) b.2
 .omega
 .simp[a]
end Go.Ab
