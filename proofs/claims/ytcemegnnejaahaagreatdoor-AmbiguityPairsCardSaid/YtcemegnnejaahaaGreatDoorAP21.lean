/- Lemmas for the law AmbiguityOfDeterministic, part 21. No conditions. -/
import Derived.Test.YtcemegnnejaahaaGreatDoorAP20
set_option maxRecDepth 100000
set_option maxHeartbeats 4000000
set_option linter.all false
namespace Go.Ab
open Enc (enc)
def sgnR(q:Rat):Int:=if q.num=0 then 0 else if q.num<0 then -1 else 1
theorem zld(x:GRat)(hx:x.sm 4194304):Sp P F.da [enc x] (.pure (.int .i64 (sgnR x.v))):=by refine Sp.vz c.da fun _=>?_;simp[g.da];refine zad (z2y x hx) rfl ?_;simp[Fr.e,frq,sgnR];refine⟨fun h=>by simp[h],fun h=>⟨fun h'=>by simp[h,h'],fun h'=>by simp[h];omega⟩⟩
theorem z3y{n d:Nat}:(lb (n / d)).length<=(lb n).length:=zqp (yop _ _)
theorem zl9{f:Fr}{n:Nat}(hd:f.d≠0)(h:f.e.sm n):(rto f.v).sm n:=by
 by_cases hn:f.n=0
 ·rw[zlv hn,zea];exact⟨by simp,by simp⟩
 ·rw[z14 hd hn];refine⟨ym6 z3y h.1,?_⟩;simp only;split
  ·simp
  ·exact ym6 z3y h.2
theorem zmc(x y:GRat)(hx:x.sm 1048576)(hy:y.sm 1048576):Sp P F.ju [enc x,enc y] (.pure (.int .i64 (sgnR (x.v - y.v)))):=by
 have h1:=zgi hx (by omega);have h2:=zgi hy (by omega);have h3:(fneg (frq y.v)).e.sm 1048576:=h2;have h4:(rto (x.v - y.v)).sm 4194304:=by have e:=zs7 (f:=frq x.v) (g:=fneg (frq y.v)) (zfo _) (zfo y.v);rw[zq3,z4p,zq3,<- Rat.sub_eq_add_neg]at e;rw[<- e];exact zl9 (zs8 (zfo _) (zfo y.v)) ((zni h1 h3).mono (by omega))
 refine Sp.vz c.ju fun _=>?_;simp[g.ju];refine zad (yb4 x y hx hy) rfl ?_;simp;refine zad (zld (rto (x.v - y.v)) h4) rfl ?_;simp[zgm]
theorem zvy(v:Int)(h1 : -9223372036854775808<=v)(h2:v<=9223372036854775807):Sp P F.ky [.int .i64 v] (.pure (.tup [.bool (decide (v<0)),.sl (ens (lb v.natAbs))])):=by
 refine Sp.vz c.ky fun _=>?_;simp[g.ky];obtain⟨z1,hz1⟩:∃ z:UInt32,z.toNat=v.natAbs % 4294967296:=⟨_,zau _⟩;obtain⟨z2,hz2⟩:∃ z:UInt32,z.toNat=v.natAbs / 4294967296 % 4294967296:=⟨_,zau _⟩;have hv:val [z1,z2]=v.natAbs:=by simp only[zbo,z0m,hz1,hz2];omega
 refine⟨fun h=>?_,fun h=>?_⟩
 ·have e1:(-(v % 18446744073709551616)) % 4294967296=(z1.toNat:Int):=by omega
  have e2:(-(v % 18446744073709551616)) % 18446744073709551616 / 4294967296 % 4294967296=(z2.toNat:Int):=by omega
  simp only[e1,e2];refine zad (zc6 [z1,z2]) (zb5 (zdf rfl (by simp) (by simp)) zcv) ?_;rw[hv];simp[h]
 ·have e1:v % 4294967296=(z1.toNat:Int):=by omega
  have e2:v % 18446744073709551616 / 4294967296 % 4294967296=(z2.toNat:Int):=by omega
  simp only[e1,e2];refine zad (zc6 [z1,z2]) (zb5 (zdf rfl (by simp) (by simp)) zcv) ?_;rw[hv];simp
theorem ztc(a b:Int):(⟨decide (a<0) != decide (b<0),a.natAbs,b.natAbs⟩:Fr).v=Rat.divInt a b:=by
 simp only[Fr.v];rcases(by omega:b<0\/0<=b)with hb|hb
 ·have e:Rat.divInt a b=mkRat (-a) b.natAbs:=by rw[<- Rat.divInt_ofNat,<- Rat.neg_divInt_neg];congr 1;omega
  rw[e];congr 1;unfold sgn;by_cases ha:a<0<;>simp[ha,hb]<;>omega
 ·have e:Rat.divInt a b=mkRat a b.natAbs:=by rw[<- Rat.divInt_ofNat];congr 1;omega
  have hb':¬ b<0:=by omega
  rw[e];congr 1;unfold sgn;by_cases ha:a<0<;>simp[ha,hb']<;>omega
theorem zwo(a b:Int)(ha : -9223372036854775808<=a/\a<=9223372036854775807)(hb : -9223372036854775808<=b/\b<=9223372036854775807) :
  Sp P F.ct [.int .i64 a,.int .i64 b] (.pure (.tup [enc (if b=0 then rto 0 else rto (Rat.divInt a b)),.int .i64 (if b=0 then 11 else 0)])):=by
 have hal:=zar (n:=a.natAbs) (k:=2) (by omega);have hbl:=zar (n:=b.natAbs) (k:=2) (by omega);refine Sp.vz c.ct fun _=>?_;simp[g.ct];refine⟨fun h=>by simp[h,zea],fun h=>?_⟩;refine zad (zvy a ha.1 ha.2) rfl ?_;simp;refine zad (zvy b hb.1 hb.2) rfl ?_;simp;refine zad (zu8 ⟨decide (a<0) != decide (b<0),a.natAbs,b.natAbs⟩ (by simpa using h) ⟨by simp only[Fr.e];omega,by simp only[Fr.e];omega⟩) ?_ ?_
 ·simp[Fr.e,bne]
 ·simp[ztc,h]
@[simp] theorem ykp(x:UInt32):IntKind.i64.wrap (x.toNat:Int)=x.toNat:=by have:=x.toNat_lt;exact i64w (by omega) (by omega)
theorem zly(a:List UInt32):Sp P F.bq [.sl (ens a)] (.pure (.sl (ens (lb (val a))))):=by
 refine Sp.vz c.bq fun hs=>?_;have hl:=zml hs.1;simp[g.bq];refine zag (S:=fun l:List UInt32=>mkSt [(0,.p (.sl (ens l)))] []) (I:=fun l=>val l=val a/\l.length<=9223372036854775807) (m:=fun l=>l.length) a (Weak.of (keep:=[0]) (ids:=[]) rfl) ⟨rfl,hl⟩ ?_;rintro l ⟨h1,h2⟩ R hn hr hx;have e:IntKind.i64.wrap (↑l.length - 1) = ↑l.length - 1:=i64w (by omega) (by omega);have e2:((l.length:Int) - 1).toNat=l.length - 1:=by omega
 simp[g.tf,mkSt,e,e2];have out:zbi l->R (Exit.exit 0) ⟨[(0,.p (.sl (ens l)))],[(DEAD,[none])]⟩:=fun hc=>by refine hx _ _ ?_;simp;rw[<- h1,zcb hc]
 refine⟨fun h=>zae (by omega) ⟨by omega,fun h0=>⟨by omega,hn (l.take (l.length - 1)) _ (Weak.of (keep:=[0]) (ids:=[]) rfl) ?_ ?_⟩,fun h0=>out ?_⟩,fun h=>out ?_⟩
 ·refine⟨?_,by simp;omega⟩;have h3:l=l.take (l.length - 1)++[0]:=by
   conv=>lhs;rw[<- List.take_append_getLast l (by intro h4;simp[h4]at h)]
   rw[List.getLast_eq_getElem,zgn (x:=l[l.length - 1]) (y:=0) (by simpa using h0)]
  rw[h3,zd7]at h1;simpa using h1
 ·simp;omega
 ·intro h4;rw[List.getLast?_eq_getElem?,yma (by omega)]at h4;simp at h4;rw[h4]at h0;exact h0 rfl
 ·subst h;simp[zbi]
theorem zqo(a:List UInt32)(i:Int)(h:0<=i):Sp P F.ja [.sl (ens a),.int .i64 i] (.pure (.int .u64 (a.getD i.toNat 0).toNat)):=by
 refine Sp.vz c.ja fun _=>?_;simp[g.ja];refine⟨fun h1=>?_,fun h1=>zae (by omega) ⟨h,?_⟩⟩
 ·have:a.length<=i.toNat:=by omega
  simp[this]
 ·have:i.toNat<a.length:=by omega
  simp[*]
def sgnI(v:Int):Int:=if v<0 then -1 else if 0<v then 1 else 0
theorem z1u(v:Int):Sp P F.jc [.int .i64 v] (.pure (.int .i64 (sgnI v))):=by refine Sp.vz c.jc fun _=>?_;simp[g.jc,sgnI];refine⟨fun h=>by omega,fun h=>⟨fun h'=>by split<;>omega,fun h'=>by split<;>omega⟩⟩
theorem zov(v:Nat)(h:v<18446744073709551616):Sp P F.kd [.int .u64 v] (.pure (.sl (ens (lb v)))):=by
 refine Sp.vz c.kd fun _=>?_;simp[g.kd];obtain⟨z1,hz1⟩:∃ z:UInt32,z.toNat=v % 4294967296:=⟨_,zau _⟩;obtain⟨z2,hz2⟩:∃ z:UInt32,z.toNat=v / 4294967296 % 4294967296:=⟨_,zau _⟩;have hv:val [z1,z2]=v:=by simp only[zbo,z0m,hz1,hz2];omega
 have e1:(v:Int) % 4294967296=(z1.toNat:Int):=by omega
 have e2:(v:Int) / 4294967296 % 4294967296=(z2.toNat:Int):=by omega
 simp only[e1,e2];refine zad (zly [z1,z2]) (zb5 (zdf rfl (by simp) (by simp)) zcv) ?_;rw[hv];simp
theorem zjy(a:List UInt32):Sp P F.ig [.sl (ens a)] (.pure (.bool (decide (a=[1])))):=by
 refine Sp.vz c.ig fun _=>?_;simp[g.ig];refine⟨fun h=>?_,fun h=>?_⟩
 ·obtain⟨d,rfl⟩:∃ d,a=[d]:=List.length_eq_one_iff.1 (by omega);refine zae (by simp) ?_;simp;by_cases hd:d=1
  ·subst hd;simp
  ·have:d.toNat≠1:=fun h=>hd (zgn (by simpa using h));simp[hd];omega
 ·intro h';subst h';simp at h
theorem zsu{a b:List UInt32}(ha:zbi a)(hb:zbi b)(h:a.length<b.length):val a<val b:=by
 have h1:=zb7 a;have hb0:val b≠0:=fun h0=>by rw[(zns hb).1 h0]at h;simp at h
 have h2:=zm1 hb0;rw[zcb hb]at h2;exact ymk h1 (ym6 (yn4 (by omega) (by omega)) h2)
theorem zkd(a b:List UInt32)(hl:a.length<=1073741824)(hl2:b.length<=1073741824)(ha:zbi a)(hb:zbi b):Sp P F.ik [.sl (ens a),.sl (ens b)] (.pure (.int .i64 (cmpN (val a) (val b)))):=by
 refine Sp.vz c.ik fun _=>?_;have e0:IntKind.i64.wrap ((a.length:Int) - b.length)=(a.length:Int) - b.length:=i64w (by omega) (by omega);have e1:IntKind.i64.wrap ((a.length:Int) - 1)=(a.length:Int) - 1:=i64w (by omega) (by omega);simp[g.ik,e0,e1];refine⟨fun hlen=>?_,fun hlen=>?_⟩
 ·have hlen:a.length=b.length:=by omega
  refine zag (S:=fun k:Nat=>mkSt [(0,.p (.sl (ens a))),(1,.p (.sl (ens b))),(5,.p (.int .i64 ((k:Int) - 1)))] []) (I:=fun k=>k<=a.length/\val a / 4294967296^k=val b / 4294967296^k) (m:=fun k=>k) a.length (Weak.of (keep:=[0,1,5]) (ids:=[]) rfl) ⟨ym9 _,by rw[zfw _ (by omega),zfw _ (by omega)]⟩ ?_;rintro k ⟨h1,h2⟩ R hn hr hx;have e2:((k:Int) - 1).toNat=k - 1:=by omega
  have e3:IntKind.i64.wrap ((k:Int) - 1 - 1)=((k - 1:Nat):Int) - 1\/k=0:=by
   rcases ynx k with h|h
   ·exact .inr h
   ·left;rw[i64w (by omega) (by omega)];omega
  simp[g.tj,mkSt,e2];refine⟨fun hk=>zae (by omega) ⟨by omega,zae (by omega) ?_⟩,fun hk=>?_⟩
  ·have e3:=e3.resolve_right (by omega);have d1:=zga a (k - 1);have d2:=zga b (k - 1);rw[show k - 1+1=k by omega]at d1 d2;have u1:=za2 a[k - 1];have u2:=za2 b[k - 1];simp[show k - 1<a.length by omega,show k - 1<b.length by omega]at d1 d2;refine⟨by omega,fun heq=>?_,fun hne=>zae (by omega) ⟨by omega,zae (by omega) ⟨by omega,?_⟩⟩⟩
   ·rw[e3];exact hn (k - 1) _ (Weak.of (keep:=[0,1,5]) (ids:=[]) rfl) ⟨by omega,by omega⟩ (by omega)
   ·have hw:IntKind.i64.wrap ((a[k - 1].toNat:Int) - b[k - 1].toNat)=(a[k - 1].toNat:Int) - b[k - 1].toNat:=i64w (by omega) (by omega);rw[hw];refine zai (z1u _) rfl ?_;simp;refine hr _ ?_;simp[sgnI];have hlt:val a / 4294967296^(k - 1)<val b / 4294967296^(k - 1)\/val b / 4294967296^(k - 1)<val a / 4294967296^(k - 1):=by omega
    rcases hlt with h|h
    ·have:=zjg h;simp only[cmpN];(repeat' split)<;>omega
    ·have:=zjg h;simp only[cmpN];(repeat' split)<;>omega
  ·refine hx _ _ ?_;have:k=0:=by omega
   subst this;simp at h2;simp[cmpN,h2]
 ·refine zad (z1u _) rfl ?_;simp[sgnI];rcases ymu a.length b.length with h|h
  ·have:=zsu ha hb h;rw[ym0 (by omega),cmpN,ym0 this]
  ·have:=zsu hb ha (by omega);rw[yl9 (by omega),ym0 (by omega),cmpN,yl9 (by omega),yl9 (by omega)]
theorem zz0{v va vb s M:Nat}(h4:v+4294967296^(M+1)*s=va+vb)(h1:va<4294967296^M)(h2:vb<4294967296^M):s=0:=by
 rw[ymm]at h4;generalize 4294967296^M=p at *
 rcases ynx s with h|h
 ·exact h
 ·have:=ypx (p*4294967296) h;omega
theorem z5p(l:List UInt32)(i:Nat):val l / 2^i % 2=(l.getD (i / 32) 0).toNat / 2^(i % 32) % 2:=by
 have h1:val l / 2^i=val l / 4294967296^(i / 32) / 2^(i % 32):=by rw[zcz i,yof]
 rw[h1,zfv];generalize val l / 4294967296^(i / 32)=x;have hs:i % 32<32:=ynn _ (by omega);generalize i % 32=s at *
 have h:2^s*2^(32 - s)=4294967296:=by rw[<- Nat.pow_add,show s+(32 - s)=32 by omega]
 have h2:2^(32 - s)=2*2^(31 - s):=by rw[show 32 - s=31 - s+1 by omega,ymm];omega
 have e:=yq6 x 4294967296;have e2:x=x % 4294967296+2^s*(2*(2^(31 - s)*(x / 4294967296))):=by rw[<- Nat.mul_assoc 2,<- h2,<- Nat.mul_assoc,h];omega
 conv=>lhs;rw[e2,yqq _ _ (yns (by omega)),yr4]
theorem z4d(x i:Nat):x / 2^i=2*(x / 2^(i+1))+x / 2^i % 2:=by rw[ymm,<- Nat.div_div_eq_div_mul];omega
theorem ygh{l:List UInt32}{i Q:Nat}(h:val l=2^(i+1)*Q)(hi:i / 32<l.length) :
  (l.getD (i / 32) 0).toNat ||| 2^(i % 32)<4294967296/\∀ z:UInt32,z.toNat=(l.getD (i / 32) 0).toNat ||| 2^(i % 32)->val (l.set (i / 32) z)=2^i*(2*Q+1):=by
 have hs:i % 32<32:=ynn _ (by omega);have hd:(l.getD (i / 32) 0).toNat=2^(i % 32+1)*(Q % 2^(31 - i % 32)):=by
  rw[zfv,h,ymm,zcz i];have e:4294967296^(i / 32)*2^(i % 32)*2*Q=4294967296^(i / 32)*(2^(i % 32)*2*Q):=by simp only[ymq]
  rw[e,Nat.mul_div_cancel_left _ (yns (by omega)),<- Nat.pow_succ];have e2:(4294967296:Nat)=2^(i % 32+1)*2^(31 - i % 32):=by rw[<- Nat.pow_add,show i % 32+1+(31 - i % 32)=32 by omega]
  rw[e2,Nat.mul_mod_mul_left]
 have ho:(l.getD (i / 32) 0).toNat ||| 2^(i % 32)=(l.getD (i / 32) 0).toNat+2^(i % 32):=by rw[hd,ymo,z2t (yr9 (by omega) (by omega))]
 have hlt:=yr2 (n:=32) (za2 (l.getD (i / 32) 0)) (yr9 (a:=2) (by omega) hs);refine⟨hlt,fun z hz=>?_⟩;have v:=zpk l (i / 32) z hi;rw[hz,ho,yn6]at v;have e3:4294967296^(i / 32)*2^(i % 32)=2^i:=(zcz i).symm;have e4:2^i*(2*Q+1)=2^(i+1)*Q+2^i:=by rw[yn6,ymm,ymq];omega
 rw[e4,<- h,<- e3];omega
theorem z2g{v p sum A C x y d r:Nat}(h4:v+p*sum=A+C)(e4:x+y+sum=4294967296*d+r):v+p*r+p*4294967296*d=A+p*x+(C+p*y):=by
 have e5:p*(x+y+sum)=p*(4294967296*d+r):=by rw[e4]
 simp only[yn6,ymq]at *
 omega
theorem zp9(a b:List UInt32)(hl:a.length<=1073741824)(hl2:b.length<=1073741824):Sp P F.ij [.sl (ens a),.sl (ens b)] (.pure (.sl (ens (lb (val a+val b))))):=by
 refine Sp.vz c.ij fun _=>?_;simp[g.ij];obtain⟨M,hM⟩:∃ M,M=max a.length b.length:=⟨_,rfl⟩
 refine zag (S:=fun x:Nat × Nat × List UInt32=>mkSt [(0,.p (.sl (ens a))),(1,.p (.sl (ens b))),(5,.own 1 0 0 x.1),(6,.p (.int .u64 x.2.1)),(7,.p (.int .i64 x.1))] [(1,⟨1,avs x.2.2⟩)])
  (I:=fun x=>x.2.2.length=x.1/\x.1<=M+1/\x.2.1<=1/\val x.2.2+4294967296^x.1*x.2.1=val (a.take x.1)+val (b.take x.1)) (m:=fun x=>M+1 - x.1) (0,0,[]) (Weak.nl 5 1 1 rfl (Weak.to [0,1,5,6,7] [((1,0),1)] (by simp))) ⟨rfl,by simp,by simp,by simp⟩ ?_
 rintro⟨i,sum,out⟩ ⟨h1,h2,h3,h4⟩ R hn hr hx;simp at h1 h2 h3 h4;simp[g.ti];refine⟨fun h=>?_,fun h=>?_⟩
 ·refine zad (zqo _ _ (by omega)) rfl ?_;simp;refine zad (zqo _ _ (by omega)) rfl ?_;simp;have hi:i<=M:=by split at h<;>omega
  have e1:=i64s i;have t1:=zb3 a i;have t2:=zb3 b i;have u1:=za2 (a.getD i 0);have u2:=za2 (b.getD i 0);simp only[ym8]at t1 t2 u1 u2;generalize (a[i]?.getD 0).toNat=x at t1 u1 ⊢;generalize (b[i]?.getD 0).toNat=y at t2 u2 ⊢;obtain⟨z,hz⟩:∃ z:UInt32,z.toNat=(x+y+sum) % 4294967296:=⟨_,zau _⟩;have e2:((x:Int)+y+sum) % 18446744073709551616 / 4294967296=(((x+y+sum) / 4294967296:Nat):Int):=by omega
  have e3:((x:Int)+y+sum) % 4294967296=(z.toNat:Int):=by rw[hz];omega
  rw[e1,e2,e3];refine⟨⟨by omega,by omega⟩,hn (i+1,(x+y+sum) / 4294967296,out++[z]) _ (Weak.to [0,1,5,6,7] [((31,0),1)] (by simp)) ⟨by simp[h1],by simp only;omega,by simp only;omega,?_⟩ (by simp only;omega)⟩;simp only;rw[zd7,hz,h1,t1,t2,ymm];have e4:x+y+sum=4294967296*((x+y+sum) / 4294967296)+(x+y+sum) % 4294967296:=by omega
  exact z2g h4 e4
 ·refine hx _ _ ?_;simp;have hi:i=M+1:=by split at h<;>omega
  subst hi;refine zad (zly out) (zb5 (zdf rfl rfl h1.symm) zcv) ?_;rw[zdp _ (by omega),zdp _ (by omega)]at h4;have v1:=ymk (zb7 a) (yn4 (n:=4294967296) (by omega) (show a.length<=M by omega));have v2:=ymk (zb7 b) (yn4 (n:=4294967296) (by omega) (show b.length<=M by omega));have hs0:sum=0:=zz0 h4 v1 v2;subst hs0;simp;rw[yq9,ymx]at h4;rw[h4]
theorem zze{v p less A C x y l r:Nat}(h4:v+C=A+p*less)(e4:x+4294967296*l=y+less+r):v+p*r+(C+p*y)=A+p*x+p*4294967296*l:=by
 have e5:p*(x+4294967296*l)=p*(y+less+r):=by rw[e4]
 simp only[yn6,ymq]at *
 omega
theorem zk0{l:List UInt32}{k:Nat}(h:val l<4294967296^k):l.getD k 0=0:=by apply zgn;rw[zfv,yo0 h];rfl
theorem zi4(a b:List UInt32)(hl:a.length<=1073741824)(hab:val b<=val a):Sp P F.im [.sl (ens a),.sl (ens b)] (.pure (.sl (ens (lb (val a - val b))))):=by
 refine Sp.vz c.im fun _=>?_;simp[g.im]
 refine zag (S:=fun x:Nat × Nat × List UInt32=>mkSt [(0,.p (.sl (ens a))),(1,.p (.sl (ens b))),(5,.own 1 0 0 x.1),(6,.p (.int .u64 x.2.1)),(7,.p (.int .i64 x.1))] [(1,⟨1,avs x.2.2⟩)])
  (I:=fun x=>x.2.2.length=x.1/\x.1<=a.length/\x.2.1<=1/\val x.2.2+val (b.take x.1)=val (a.take x.1)+4294967296^x.1*x.2.1) (m:=fun x=>a.length - x.1) (0,0,[]) (Weak.nl 5 1 1 rfl (Weak.to [0,1,5,6,7] [((1,0),1)] (by simp))) ⟨rfl,by simp,by simp,by simp⟩ ?_
 rintro⟨i,less,out⟩ ⟨h1,h2,h3,h4⟩ R hn hr hx;simp only at h1 h2 h3 h4;simp[g.tl];refine⟨fun h=>?_,fun h=>?_⟩
 ·refine zad (zqo _ _ (by omega)) rfl ?_;simp;refine zad (zqo _ _ (by omega)) rfl ?_;simp;have e1:=i64s i;have t1:=zb3 a i;have t2:=zb3 b i;have u1:=za2 (a.getD i 0);have u2:=za2 (b.getD i 0);simp only[ym8]at t1 t2 u1 u2;generalize (a[i]?.getD 0).toNat=x at t1 u1 ⊢;generalize (b[i]?.getD 0).toNat=y at t2 u2 ⊢;obtain⟨z,hz⟩:∃ z:UInt32,z.toNat=(x+4294967296 - y - less) % 4294967296:=⟨_,zau _⟩;obtain⟨l',hl'⟩:∃ l':Nat,l'=if x<y+less then 1 else 0:=⟨_,rfl⟩
  have e2:(1 - ((x:Int)+4294967296 - y - less) % 18446744073709551616 / 4294967296) % 18446744073709551616=(l':Int):=by subst hl';split<;>omega
  have e3:((x:Int)+4294967296 - y - less) % 4294967296=(z.toNat:Int):=by rw[hz];omega
  rw[e1,e2,e3];refine⟨⟨by omega,by omega⟩,hn (i+1,l',out++[z]) _ (Weak.to [0,1,5,6,7] [((29,0),1)] (by simp)) ⟨by simp[h1],by simp only;omega,by simp only;subst hl';split<;>omega,?_⟩ (by simp only;omega)⟩;simp only;rw[zd7,hz,h1,t1,t2,ymm];have e4:x+4294967296*l'=y+less+(x+4294967296 - y - less) % 4294967296:=by subst hl';split<;>omega
  generalize 4294967296^i=p at *
  generalize (x+4294967296 - y - less) % 4294967296=r at *
  exact zze h4 e4
 ·refine hx _ _ ?_;simp;have hi:i=a.length:=by omega
  subst hi;refine zad (zly out) (zb5 (zdf rfl rfl h1.symm) zcv) ?_;rw[yml,zhy (ynw hab (zb7 a))]at h4;have u1:=zb7 out;rw[h1]at u1;have hless:less=0:=by
   rcases ymu 0 less with h5|h5
   ·have:less=1:=by omega
    subst this;omega
   ·omega
  subst hless;rw[yq9,ymx]at h4;simp;rw[show val out=val a - val b by omega]
theorem zl0(a b:List UInt32)(hl:a.length<=536870912)(hl2:b.length<=536870912):Sp P F.lc [.sl (ens a),.sl (ens b)] (.pure (.sl (ens (lb (val a*val b))))):=by
 refine Sp.vz c.lc fun _=>?_;have e0:IntKind.i64.wrap ((a.length:Int)+b.length)=((a.length+b.length:Nat):Int):=i64w (by omega) (by omega);simp[g.lc,e0];have e0':((a.length:Int)+b.length).toNat=a.length+b.length:=by omega
 simp only[e0']
 refine⟨by omega,zag (S:=fun x:Nat × List UInt32=>mkSt [(0,.p (.sl (ens a))),(1,.p (.sl (ens b))),(5,.own 1 0 0 (a.length+b.length)),(6,.p (.int .i64 x.1))] [(1,⟨1,avs x.2⟩)])
  (I:=fun x=>x.2.length=a.length+b.length/\x.1<=a.length/\val x.2=val (a.take x.1)*val b) (m:=fun x=>a.length - x.1) (0,List.replicate (a.length+b.length) 0)
  (Weak.to [0,1,5,6] [((15,0),1)] (by simp)) ⟨by simp,by simp,by simp[zd8]⟩ ?_⟩
 rintro⟨i,out⟩ ⟨h1,h2,h3⟩ R hn hr hx;simp only at h1 h2 h3;simp[g.th];refine⟨fun h=>?_,fun h=>?_⟩
 ·refine zag (S:=fun x:Nat × Nat × List UInt32=>mkSt [(0,.p (.sl (ens a))),(1,.p (.sl (ens b))),(5,.own 1 0 0 (a.length+b.length)),(6,.p (.int .i64 i)),(7,.p (.int .u64 x.2.1)),(8,.p (.int .i64 x.1))] [(1,⟨1,avs x.2.2⟩)])
   (I:=fun x=>x.2.2.length=a.length+b.length/\x.1<=b.length/\x.2.1<4294967296/\x.2.2.getD (i+b.length) 0=0/\val x.2.2+4294967296^i*4294967296^x.1*x.2.1=val (a.take i)*val b+4294967296^i*(a.getD i 0).toNat*val (b.take x.1)) (m:=fun x=>b.length - x.1) (0,0,out)
   (Weak.to [0,1,5,6,7,8] [((1,0),1)] (by simp)) ⟨by simp[h1],by simp,by simp,?_,by simp[h3]⟩ ?_
  ·simp only;refine zk0 ?_;rw[h3,yn5];have q1:val (a.take i)<4294967296^i:=ymk (zb7 _) (yn4 (by omega) (by simp;omega));exact yo5 q1 (zb7 b)
  rintro⟨j,sum,o2⟩ ⟨k1,k2,k3,k5,k4⟩ R2 hn2 hr2 hx2;simp only at k1 k2 k3 k4 k5;simp[g.tg];have ei1:=i64s i;refine⟨fun g=>?_,fun g=>?_⟩
  ·have ew:IntKind.i64.wrap ((i:Int)+j)=((i+j:Nat):Int):=i64w (by omega) (by omega);have e1:=i64s j;rw[ew,e1,Int.toNat_natCast];refine zae (by omega) (zae (by omega) ⟨⟨by omega,by omega,by omega⟩,zae (by omega) ⟨⟨by omega,by omega,by omega⟩,zae (by omega) ?_⟩⟩);have t1:=zb3 b j;have u0:=za2 a[i];have u1:=za2 b[j];have u2:=za2 o2[i+j];have vs:∀ z,val (o2.set (i+j) z)+4294967296^(i+j)*o2[i+j].toNat=val o2+4294967296^(i+j)*z.toNat:=fun z=>by have:=zpk o2 (i+j) z (by omega);simpa only[List.getD_eq_getElem?_getD,List.getElem?_eq_getElem (show i+j<o2.length by omega),Option.getD_some]using this
   have ga:(a.getD i 0)=a[i]:=by simp[yma h]
   have gb:(b.getD j 0)=b[j]:=by simp[yma g]
   rw[gb]at t1;rw[ga]at k4;generalize hx1:a[i].toNat=x at u0 k4 ⊢;generalize b[j].toNat=y at t1 u1 ⊢;generalize o2[i+j].toNat=o at u2 vs ⊢;have hxy:x*y<=4294967295*4294967295:=ymf (by omega) (by omega);obtain⟨z,hz⟩:∃ z:UInt32,z.toNat=(sum+(o+x*y)) % 4294967296:=⟨_,zau _⟩;have e2:((x:Int)*y+o+sum) % 18446744073709551616 / 4294967296=(((sum+(o+x*y)) / 4294967296:Nat):Int):=by
    have:((x:Int)*y)=((x*y:Nat):Int):=by simp
    rw[this];omega
   have e3:((x:Int)*y+o+sum) % 4294967296=(z.toNat:Int):=by
    have:((x:Int)*y)=((x*y:Nat):Int):=by simp
    rw[this,hz];omega
   rw[e2,e3];refine hn2 (j+1,(sum+(o+x*y)) / 4294967296,o2.set (i+j) z) _ (Weak.to [0,1,5,6,7,8] [((1,0),1)] (by simp)) ⟨by simp[k1],by simp only;omega,by simp only;omega,?_,?_⟩ (by simp only;omega)
   ·simp only;rw[ym8,List.getElem?_set_ne (by omega),<- List.getD_eq_getElem?_getD];exact k5
   ·simp only;have v:=vs z;rw[hz,yn5]at v;rw[t1,ymm,ga,hx1];have e4:=yq6 (sum+(o+x*y)) 4294967296;exact zoa v k4 e4
  ·refine hx2 _ _ ?_;have hj:j=b.length:=by omega
   subst hj;have ew:IntKind.i64.wrap ((i:Int)+b.length)=((i+b.length:Nat):Int):=i64w (by omega) (by omega);simp[ew,ei1];have ew2:((i:Int)+b.length).toNat=i+b.length:=by omega
   rw[ew2];obtain⟨z,hz⟩:∃ z:UInt32,z.toNat=sum:=⟨UInt32.ofNat sum,by rw[zau];omega⟩;have e3:(sum:Int) % 4294967296=(z.toNat:Int):=by rw[hz];omega
   rw[e3];refine⟨⟨by omega,by omega,by omega⟩,zae (by omega) ?_⟩;refine hn (i+1,o2.set (i+b.length) z) _ (Weak.to [0,1,5,6] [((1,0),1)] (by simp)) ⟨by simp[k1],by simp only;omega,?_⟩ (by simp only;omega);simp only;have v:=zpk o2 (i+b.length) z (by omega);rw[k5,hz,yn5]at v;rw[yml]at k4;rw[zb3,yn7];simp only[UInt32.toNat_zero,yq9,ymx]at v;rw[v,k4]
 ·refine hx _ _ ?_;simp;refine zad (zly out) (zb5 (zdf rfl rfl (by omega)) zcv) ?_;simp;have:i=a.length:=by omega
  subst this;rw[h3,yml]
theorem znm(a b:List UInt32)(hl:a.length<=4194304)(hl2:b.length<=4194304)(hb:val b≠0)(hcb:zbi b):Sp P F.ic [.sl (ens a),.sl (ens b)] (.pure (.tup [.sl (ens (lb (val a / val b))),.sl (ens (lb (val a % val b)))])):=by
 refine Sp.vz c.ic fun _=>?_;have e0:IntKind.i64.wrap (32*(a.length:Int))=32*(a.length:Int):=i64w (by omega) (by omega);have e1:IntKind.i64.wrap (32*(a.length:Int) - 1)=32*(a.length:Int) - 1:=i64w (by omega) (by omega);simp[g.ic,e0,e1]
 refine⟨by omega,zag (S:=fun x:Nat × Nat × List UInt32=>mkSt [(0,.p (.sl (ens a))),(1,.p (.sl (ens b))),(6,.own 1 0 0 a.length),(7,.p (.sl (ens (lb x.2.1)))),(8,.p (.int .i64 ((x.1:Int) - 1)))] [(1,⟨1,avs x.2.2⟩)])
  (I:=fun x=>x.2.2.length=a.length/\x.1<=32*a.length/\x.2.1<val b/\∃ Q,val x.2.2=2^x.1*Q/\val a / 2^x.1=Q*val b+x.2.1) (m:=fun x=>x.1) (32*a.length,0,List.replicate a.length 0)
  ((Weak.freeze (t:=7) rfl).trans (Weak.to [0,1,6,7,8] [((11,0),1)] (by simp))) ⟨by simp,by simp,by simp;omega,0,by simp[zd8],?_⟩ ?_⟩
 ·simp only[ypr,ymx];rw[Nat.pow_mul];exact yo0 (zb7 a)
 rintro⟨k,R,q⟩ ⟨h1,h2,h3,Q,h4,h5⟩ X hn hr hx;simp only at h1 h2 h3 h4 h5;have hRl:=ym6 (zar (Nat.lt_trans h3 (zb7 b))) hl2;rcases k with _|i
 ·simp[g.ri];refine hx _ _ ?_;simp;refine zad (zly q) (zb5 (zdf rfl (by simp) (by omega)) zcv) ?_;simp;simp only[Nat.pow_zero,Nat.one_mul,Nat.div_one]at h4 h5;have q1:val a / val b=val q:=by rw[h5,h4,ymo,yp9 (by omega),yo0 h3];omega
  have q2:val a % val b=R:=by rw[h5,ymo,ypa,ynf h3]
  rw[q1,q2];exact⟨rfl,rfl⟩
 ·simp[g.ri];refine zad (zp9 (lb R) (lb R) (by omega) (by omega)) rfl ?_;simp;have hw:IntKind.i64.wrap ((i:Int) / 32)=((i / 32:Nat):Int):=by rw[i64w (by omega) (by omega)];omega
  have hm:(i:Int).tmod 32=((i % 32:Nat):Int):=z6c i 32;have hm2:((i % 32:Nat):Int) % 18446744073709551616=((i % 32:Nat):Int):=by omega
  have hm3:((i % 32:Nat):Int).toNat.min 32=i % 32:=yoc (by rw[yno];omega);rw[hw,hm,hm2,hm3,yno];have hbd:=z5p a i;have hhs:=z4d (val a) i;have hoq:=ygh h4 (by omega);have hil:i / 32<a.length:=by omega
  have ga:(a.getD (i / 32) 0)=a[i / 32]:=by simp[yma hil]
  rw[ga]at hbd;refine zae hil ⟨by omega,by omega,?_⟩;have hxl:=za2 a[i / 32];generalize a[i / 32]=x at hbd hxl ⊢;have he:((x.toNat:Int) / 2^(i % 32))=((x.toNat / 2^(i % 32):Nat):Int):=by simp
  have hal:=z9z (x:=x.toNat / 2^(i % 32)) (y:=1) (ynw (yop _ _) hxl) (by omega);rw[Nat.and_one_is_mod,show((1:Nat):Int)=1 from rfl]at hal;rw[he,hal,<- hbd];have hk1:IntKind.i64.wrap ((i:Int) - 1)=(i:Int) - 1:=i64w (by omega) (by omega);have hbit:(val a / 2^i % 2=0)\/(val a / 2^i % 2=1):=by omega
  refine⟨fun hb1=>?_,fun hb0=>?_⟩
  ·refine zad (zp9 (lb (R+R)) [1] (by have:=zj3 (m:=R) (n:=R) hRl hRl;omega) (by simp)) (zb5 rfl (zb5 (zdf rfl (by simp) (by simp)) zcv)) ?_;obtain⟨R2,hR2⟩:∃ R2,R+R+1=R2:=⟨_,rfl⟩;have hB:val a / 2^i % 2=1:=by omega
   simp[hR2];have hR2l:(lb R2).length<=4194305:=by
    have:=zj3 hRl hRl;have:=zj3 (m:=R+R) (n:=1) (a:=4194305) (by omega) (by rw[zm0];simp)
    first|(rw[<- hR2];have h:=zar (n:=R+R+1) (k:=b.length+1) (by have:=zb7 b;rw[ymm];omega);omega)|(rw[<- hR2];omega)
   refine zad (zkd (lb R2) b (by omega) (by omega) (zbs _) hcb) rfl ?_;simp[zgd];refine⟨fun hge=>?_,fun hlt=>?_⟩
   ·refine zad (zi4 (lb R2) b (by omega) (by simpa using hge)) rfl ?_;simp;rw[hw,hm,hm2,hm3,Int.toNat_natCast,hk1];have hiq:i / 32<q.length:=by omega
    have gq:(q.getD (i / 32) 0)=q[i / 32]:=by simp[yma hiq]
    rw[gq]at hoq;obtain⟨z,hz⟩:∃ z:UInt32,z.toNat=q[i / 32].toNat ||| 2^(i % 32):=⟨UInt32.ofNat _,by rw[zau,ynf hoq.1]⟩;have h2p:=zg0 (s:=i % 32) (ynn _ (by omega));have hpc:((2:Int)^(i % 32) % 4294967296)=((2^(i % 32):Nat):Int):=by
     have:((2:Int)^(i % 32))=((2^(i % 32):Nat):Int):=by simp
     rw[this];generalize 2^(i % 32)=p at h2p ⊢;omega
    have ho:=z2u (x:=q[i / 32].toNat) (y:=2^(i % 32)) (za2 _) (by omega);rw[hpc];refine⟨⟨by omega,by omega,by omega⟩,zae hiq ⟨by omega,⟨by omega,by omega,by omega⟩,zae hiq ?_⟩⟩;rw[ho,<- hz];refine hn (i,R2 - val b,q.set (i / 32) z) _ (Weak.to [0,1,6,7,8] [((1,0),1)] (by simp)) ⟨by simp[h1],by simp only;omega,by simp only;omega,2*Q+1,?_,?_⟩ (by simp)
    ·simp only;exact hoq.2 z hz
    ·simp only;rw[hhs,h5,hB,yn7,ymq,yn6];omega
   ·refine hn (i,R2,q) _ (Weak.to [0,1,6,7,8] [((1,0),1)] (by simp[hk1])) ⟨h1,by simp only;omega,hlt,2*Q,?_,?_⟩ (by simp)
    ·simp only;rw[h4,ymm,ymq]
    ·simp only;rw[hhs,h5,hB,<- hR2,yn6,ymq];omega
  ·obtain⟨R2,hR2⟩:∃ R2,R+R=R2:=⟨_,rfl⟩;have hB:val a / 2^i % 2=0:=by omega
   simp[hR2];have hR2l:(lb R2).length<=4194305:=by
    have:=zj3 hRl hRl;have:=zj3 (m:=R+R) (n:=1) (a:=4194305) (by omega) (by rw[zm0];simp)
    first|(rw[<- hR2];have h:=zar (n:=R+R+1) (k:=b.length+1) (by have:=zb7 b;rw[ymm];omega);omega)|(rw[<- hR2];omega)
   refine zad (zkd (lb R2) b (by omega) (by omega) (zbs _) hcb) rfl ?_;simp[zgd];refine⟨fun hge=>?_,fun hlt=>?_⟩
   ·refine zad (zi4 (lb R2) b (by omega) (by simpa using hge)) rfl ?_;simp;rw[hw,hm,hm2,hm3,Int.toNat_natCast,hk1];have hiq:i / 32<q.length:=by omega
    have gq:(q.getD (i / 32) 0)=q[i / 32]:=by simp[yma hiq]
    rw[gq]at hoq;obtain⟨z,hz⟩:∃ z:UInt32,z.toNat=q[i / 32].toNat ||| 2^(i % 32):=⟨UInt32.ofNat _,by rw[zau,ynf hoq.1]⟩;have h2p:=zg0 (s:=i % 32) (ynn _ (by omega));have hpc:((2:Int)^(i % 32) % 4294967296)=((2^(i % 32):Nat):Int):=by
     have:((2:Int)^(i % 32))=((2^(i % 32):Nat):Int):=by simp
     rw[this];generalize 2^(i % 32)=p at h2p ⊢;omega
    have ho:=z2u (x:=q[i / 32].toNat) (y:=2^(i % 32)) (za2 _) (by omega);rw[hpc];refine⟨⟨by omega,by omega,by omega⟩,zae hiq ⟨by omega,⟨by omega,by omega,by omega⟩,zae hiq ?_⟩⟩;rw[ho,<- hz];refine hn (i,R2 - val b,q.set (i / 32) z) _ (Weak.to [0,1,6,7,8] [((1,0),1)] (by simp)) ⟨by simp[h1],by simp only;omega,by simp only;omega,2*Q+1,?_,?_⟩ (by simp)
    ·simp only;exact hoq.2 z hz
    ·simp only;rw[hhs,h5,hB,yn7,ymq,yn6];omega
   ·refine hn (i,R2,q) _ (Weak.to [0,1,6,7,8] [((1,0),1)] (by simp[hk1])) ⟨h1,by simp only;omega,hlt,2*Q,?_,?_⟩ (by simp)
    ·simp only;rw[h4,ymm,ymq]
    ·simp only;rw[hhs,h5,hB,<- hR2,yn6,ymq];omega
theorem zpf(a b:List UInt32)(hl:a.length<=4194304)(hl2:b.length<=4194304)(ha:zbi a)(hb:zbi b):Sp P F.g9 [.sl (ens a),.sl (ens b)] (.pure (.sl (ens (lb (Nat.gcd (val a) (val b)))))):=by
 refine Sp.vz c.g9 fun _=>?_;simp[g.g9];refine zag (S:=fun x:List UInt32 × List UInt32=>mkSt [(0,.p (.sl (ens x.1))),(1,.p (.sl (ens x.2)))] []) (I:=fun x=>x.1.length<=4194304/\x.2.length<=4194304/\zbi x.1/\zbi x.2/\Nat.gcd (val x.1) (val x.2)=Nat.gcd (val a) (val b)) (m:=fun x=>val x.2) (a,b) (Weak.of (keep:=[0,1]) (ids:=[]) rfl) ⟨hl,hl2,ha,hb,rfl⟩ ?_;rintro⟨x,y⟩ ⟨h1,h2,h3,h4,h5⟩ R hn hr hx;simp at h1 h2 h3 h4 h5;simp[g.te];refine⟨fun h=>?_,fun h=>hx _ _ ?_⟩
 ·have hy:val y≠0:=fun h0=>by rw[<- zcb h4,h0]at h;simp at h
  refine zad (znm x y h1 h2 hy h4) rfl ?_;simp;have hlt:=Nat.mod_lt (val x) (Nat.pos_of_ne_zero hy);have hlen:=zar (Nat.lt_trans hlt (zb7 y));refine hn (y,lb (val x % val y)) _ (Weak.of (keep:=[0,1]) (ids:=[]) rfl) ⟨h2,by simp only;omega,h4,zbs _,?_⟩ (by simpa using hlt);simp only[zn7];rw[<- h5,Nat.gcd_comm (val x),Nat.gcd_rec (val y) (val x),Nat.gcd_comm]
 ·subst h;simp at h5;simp;rw[<- h5,zcb h3]
theorem zyh(x:GRat):Sp P F.ld [enc x] (.pure (.sl (ens (if x.den=[]then[(1:UInt32)]else x.den)))):=by refine Sp.vz c.ld fun _=>?_;simp[g.ld];refine⟨fun h=>by simp[h],fun h=>by simp[h]⟩
theorem zlh(f:Fr)(hd:f.d≠0)(hx:f.e.sm 4194304):Sp P F.gv [.bool f.neg,.sl (ens (lb f.n)),.sl (ens (lb f.d))] (.pure (enc (rto f.v))):=by
 obtain⟨h1,h2⟩:=hx;simp only[Fr.e]at h1 h2;refine Sp.vz c.gv fun _=>?_;simp[g.gv];refine⟨fun h=>?_,fun h=>?_⟩
 ·simp[zlv h,zea]
 ·have hg:=yr8 f.d (yq8 h);refine zad (zpf _ _ h1 h2 (zbs _) (zbs _)) rfl ?_;have hlg:(lb (Nat.gcd f.n f.d)).length<=4194304:=by refine ym6 (zar (n:=Nat.gcd f.n f.d) (k:=(lb f.n).length) ?_) h1;exact ynw (Nat.gcd_le_left _ (yq8 h)) (zil _)
  rw[z14 hd h];simp;refine zad (znm (lb f.n) (lb (Nat.gcd f.n f.d)) h1 hlg (by simp;omega) (zbs _)) rfl ?_;simp;refine zad (znm (lb f.d) (lb (Nat.gcd f.n f.d)) h2 hlg (by simp;omega) (zbs _)) rfl ?_;simp;refine zad (zjy _) rfl ?_;have h1':(lb (f.d / Nat.gcd f.n f.d)=[1]) ↔ f.d / Nat.gcd f.n f.d=1:=⟨fun h=>by have:=congrArg val h;simpa using this,fun h=>by rw[h,zm0]⟩;simp[h1'];refine⟨fun h6=>?_,fun h6=>?_⟩<;>simp[h6]
theorem znv(v:Int)(h1 : -9223372036854775808<=v)(h2:v<=9223372036854775807):Sp P F.ke [.int .i64 v] (.pure (.int .u64 v.natAbs)):=by refine Sp.vz c.ke fun _=>?_;simp[g.ke];refine⟨fun h=>?_,fun h=>by omega⟩;rw[i64w (n:=v+1) (by omega) (by omega),i64w (by omega) (by omega)];omega
theorem zdw{a:List UInt32}(h:0<a.length):(a[a.length - 1].toNat=0) ↔ ¬ zbi a:=by simp only[zbi,List.getLast?_eq_getElem?,List.getElem?_eq_getElem (show a.length - 1<a.length by omega)];simp;exact⟨fun h=>zgn (by simpa using h),fun h=>by rw[h];rfl⟩
theorem z5d(l:List UInt32)(h:zbi l):l=[1] ↔ val l=1:=⟨fun h=>by rw[h];rfl,fun h0=>by rw[<- zcb h,h0,zm0]⟩
theorem ziv(x:GRat)(hx:x.sm 4194304):Sp P F.bc [enc x] (.pure (.bool x.valid)):=by
 obtain⟨h1,h2⟩:=hx;have en:IntKind.i64.wrap ((x.num.length:Int) - 1)=(x.num.length:Int) - 1:=i64w (by omega) (by omega);have ed:IntKind.i64.wrap ((x.den.length:Int) - 1)=(x.den.length:Int) - 1:=i64w (by omega) (by omega);have en':((x.num.length:Int) - 1).toNat=x.num.length - 1:=by omega
 have ed':((x.den.length:Int) - 1).toNat=x.den.length - 1:=by omega
 refine Sp.vz c.bc fun _=>?_;by_cases hn:x.num=[]
 ·by_cases hd:x.den=[]
  ·simp[g.bc,hn,hd];refine zad (zjy []) rfl ?_;simp;rw[zgp];refine⟨fun h=>?_,fun h=>?_⟩<;>simp[GRat.valid,hn,hd,h]
  ·have hdl:=yod.2 hd;simp[g.bc,hn,hdl,ed,ed'];refine zae (by omega) ⟨by omega,fun h3=>?_,fun h3=>?_⟩
   ·simp[GRat.valid,(zdw hdl).1 h3]
   ·have hc:zbi x.den:=by simpa using (mt (zdw hdl).2) h3
    refine zad (zjy x.den) rfl ?_;simp;refine⟨fun h4=>by simp[GRat.valid,hn,hd],fun h4=>?_⟩;rw[zgp];refine⟨fun h=>?_,fun h=>?_⟩<;>simp[GRat.valid,hn,hd,h]
 ·have hnl:=yod.2 hn;by_cases hd:x.den=[]
  ·simp[g.bc,hnl,hd,en,en'];refine zae (by omega) ⟨by omega,fun h3=>?_,fun h3=>?_⟩
   ·simp[GRat.valid,(zdw hnl).1 h3]
   ·have hc:zbi x.num:=by simpa using (mt (zdw hnl).2) h3
    refine zad (zjy []) rfl ?_;simp[hn];simp[GRat.valid,hn,hd,hc]
  ·have hdl:=yod.2 hd;simp[g.bc,hnl,hdl,en,en',ed,ed'];refine zae (by omega) ⟨by omega,fun h3=>?_,fun h3=>zae (by omega) ⟨by omega,fun h4=>?_,fun h4=>?_⟩⟩
   ·simp[GRat.valid,(zdw hnl).1 h3]
   ·simp[GRat.valid,(zdw hdl).1 h4]
   ·have hc:zbi x.num:=by simpa using (mt (zdw hnl).2) h3
    have hcd:zbi x.den:=by simpa using (mt (zdw hdl).2) h4
    refine zad (zjy x.den) rfl ?_;simp[hn,hd];refine⟨fun h5=>?_,fun h5=>?_⟩
    ·simp[GRat.valid,hn,hd,(z5d _ hcd).1 h5]
    ·refine zad (zpf x.num x.den h1 h2 hc hcd) rfl ?_;simp;refine zad (zjy _) rfl ?_;have h1':(lb ((val x.num).gcd (val x.den))=[1]) ↔ (val x.num).gcd (val x.den)=1:=⟨fun h=>by have:=congrArg val h;simpa using this,fun h=>by rw[h,zm0]⟩;have h5':¬ val x.den=1:=fun h=>h5 ((z5d _ hcd).2 h);simp[GRat.valid,hn,hd,hc,hcd,h1',h5']
theorem zfx(x:GRat)(hx:x.sm 4194304):Sp P F.bs [enc x] (.pure (enc (rto x.v))):=by
 refine Sp.vz c.bs fun _=>?_;simp[g.bs];refine zad (ziv x hx) rfl ?_;simp;rw[zgp];refine⟨fun h=>?_,fun h=>?_⟩
 ·have:=hx.1;have:=hx.2;simp[zib h];omega
 ·simp[zlu h,zea]
theorem ziy(x:GRat)(hx:x.sm 4194304):Sp P F.c9 [enc x] (.pure (.int .i64 (sgnR x.v))):=by
 refine Sp.vz c.c9 fun _=>?_;simp[g.c9];refine zad (zfx x hx) rfl ?_;have hz:x.v=0 ↔ x.v.num=0:=Rat.num_eq_zero.symm;have hnn:0<=x.v ↔ 0<=x.v.num:=Rat.num_nonneg.symm;simp[rto,sgnR];rw[hnn];simp only[hz];refine⟨fun h=>?_,fun h=>⟨fun h'=>?_,fun h'=>?_⟩⟩
 ·rw[yl9 (by omega),ym0 h]
 ·have h2:x.v.num≠0:=fun h=>by rw[h]at h';simp at h'
  rw[yl9 h2,yl9 (by omega)]
 ·intro h2;exact absurd h' h2
theorem yc5(x:GRat)(hx:x.sm 4194304):Sp P F.k9 [enc x] (.pure (enc (rto (-x.v)))):=by
 refine Sp.vz c.k9 fun _=>?_;simp[g.k9];refine zad (zfx x hx) rfl ?_;have hz:x.v=0 ↔ x.v.num=0:=Rat.num_eq_zero.symm;simp[rto];simp only[hz];refine⟨fun h'=>?_,fun h'=>by omega⟩;have h2:x.v.num≠0:=fun h=>by rw[h]at h';simp at h'
 by_cases h:x.v.num<0
 ·have:¬ 0<x.v.num:=by omega
  simp[h,this]
 ·have:0<x.v.num:=by omega
  simp[h,this]
theorem yg3(q:Rat):(frq q).e=⟨(rto q).neg,(rto q).num,if (rto q).den=[]then[1]else(rto q).den⟩:=by have:=zne (zfi q);rw[zgm]at this;exact this
theorem zvu(x y:GRat)(hx:x.sm 1048576)(hy:y.sm 1048576):Sp P F.d9 [enc x,enc y] (.pure (enc (rto (x.v+y.v)))):=by
 have h1:=zgi hx (by omega);have h2:=zgi hy (by omega);have h3:=zni h1 h2;have h4:(fadd (frq x.v) (frq y.v)).d≠0:=zs8 (zfo _) (zfo _);have hv:=zs7 (f:=frq x.v) (g:=frq y.v) (zfo _) (zfo _);rw[zq3,zq3]at hv;have ex:=yg3 x.v;have ey:=yg3 y.v;have m1:=zf6 h1.1 h2.2;have m2:=zf6 h2.1 h1.2;have m3:=zf6 h1.2 h2.2;simp only[Fr.e,GRat.mk.injEq]at ex ey;obtain⟨ex1,ex2,ex3⟩:=ex;obtain⟨ey1,ey2,ey3⟩:=ey;obtain⟨a1,a2⟩:=h1;obtain⟨b1,b2⟩:=h2;simp only[Fr.e]at a1 a2 b1 b2;refine Sp.vz c.d9 fun _=>?_;simp[g.d9];refine zai (zfx x (hx.mono (by omega))) rfl ?_;simp;refine zai (zfx y (hy.mono (by omega))) rfl ?_;simp;refine zai (zyh (rto y.v)) rfl ?_;simp only[<- ex1,<- ex2,<- ey1,<- ey2,<- ey3];simp;refine zai (zl0 _ _ (by omega) (by omega)) rfl ?_;simp;refine zai (zyh (rto x.v)) rfl ?_;simp only[<- ex3];simp;refine zai (zl0 _ _ (by omega) (by omega)) rfl ?_;simp;refine zai (zyh (rto x.v)) rfl ?_;simp only[<- ex3];simp;refine zai (zyh (rto y.v)) rfl ?_;simp only[<- ey3];simp;refine zai (zl0 _ _ (by omega) (by omega)) rfl ?_;simp;generalize frq x.v=u at *
 generalize frq y.v=w at *
 refine⟨fun h=>?_,fun h=>?_⟩
 ·refine zai (zp9 (lb (u.n*w.d)) (lb (w.n*u.d)) (by omega) (by omega)) rfl ?_;simp;refine zai (zlh (fadd u w) h4 (h3.mono (by omega))) ?_ ?_
  ·simp[h,fadd]
  ·simp[hv]
 ·refine zad (zkd (lb (u.n*w.d)) (lb (w.n*u.d)) (by omega) (by omega) (zbs _) (zbs _)) rfl ?_;simp[zgd];refine⟨fun h'=>?_,fun h'=>?_⟩
  ·refine zai (zi4 (lb (u.n*w.d)) (lb (w.n*u.d)) (by omega) (by simpa using h')) rfl ?_;simp;refine zai (zlh (fadd u w) h4 (h3.mono (by omega))) ?_ ?_
   ·simp[h,h',fadd]
   ·simp[hv]
  ·have h'':¬ (w.n*u.d<=u.n*w.d):=Nat.not_le.2 h';refine zai (zi4 (lb (w.n*u.d)) (lb (u.n*w.d)) (by omega) (by simp;omega)) rfl ?_;simp;refine zai (zlh (fadd u w) h4 (h3.mono (by omega))) ?_ ?_
   ·simp[h,h'',fadd]
   ·simp[hv]
theorem zoi{x y:GRat}{n:Nat}(hx:x.sm n)(hy:y.sm n)(hn:1<=n):(rto (x.v+y.v)).sm (n+n+1):=by have e:=zs7 (f:=frq x.v) (g:=frq y.v) (zfo _) (zfo _);rw[zq3,zq3]at e;rw[<- e];exact zl9 (zs8 (zfo _) (zfo _)) (zni (zgi hx hn) (zgi hy hn))
theorem zoj{x:GRat}{n:Nat}(hx:x.sm n)(hn:1<=n):(rto (-x.v)).sm n:=by have e:=z4p (frq x.v);rw[zq3]at e;rw[<- e];exact zl9 (f:=fneg (frq x.v)) (zfo x.v) (zgi hx hn)
theorem ybs(x y:GRat)(hx:x.sm 1048576)(hy:y.sm 1048576):Sp P F.kf [enc x,enc y] (.pure (enc (rto (x.v - y.v)))):=by refine Sp.vz c.kf fun _=>?_;simp[g.kf];refine zai (yc5 y (hy.mono (by omega))) rfl ?_;simp;refine zai (zvu x (rto (-y.v)) hx (zoj hy (by omega))) rfl ?_;simp[zgm,yqr]
theorem znn(x y:GRat)(hx:x.sm 1048576)(hy:y.sm 1048576):Sp P F.aj [enc x,enc y] (.pure (.int .i64 (sgnR (x.v - y.v)))):=by have h:=zoi hx (zoj hy (by omega)) (by omega);rw[zgm,<- Rat.sub_eq_add_neg]at h;refine Sp.vz c.aj fun _=>?_;simp[g.aj];refine zad (ybs x y hx hy) rfl ?_;simp;refine zad (ziy (rto (x.v - y.v)) (h.mono (by omega))) rfl ?_;simp[zgm]
theorem zxu(x y:GRat)(hx:x.sm 1048576)(hy:y.sm 1048576):Sp P F.iy [enc x,enc y] (.pure (.bool (decide (x.v<y.v)))):=by
 refine Sp.vz c.iy fun _=>?_;simp[g.iy];refine zad (znn x y hx hy) rfl ?_;have hz:x.v<y.v ↔ (x.v - y.v).num<0:=by
  rw[Rat.lt_iff_sub_pos];have:(x.v - y.v) = -(y.v - x.v):=by rw[Rat.neg_sub]
  rw[this,Rat.neg_num];have h1:0<=y.v - x.v ↔ 0<=(y.v - x.v).num:=Rat.num_nonneg.symm;have h2:(y.v - x.v)=0 ↔ (y.v - x.v).num=0:=Rat.num_eq_zero.symm;rw[Rat.lt_iff_le_and_ne,h1,ne_comm,Ne,h2];omega
 simp only[hz,sgnR];simp;have h2:x.v - y.v=0 ↔ (x.v - y.v).num=0:=Rat.num_eq_zero.symm;simp only[h2];generalize (x.v - y.v).num=z
 (repeat' split)<;>omega
theorem zr3(a b:List UInt32)(hl:a.length<=1073741824):Sp P F.mn [.sl (ens a),.sl (ens b)] (.pure (.bool (decide (a=b)))):=by
 refine Sp.vz c.mn fun _=>?_;simp[g.mn];refine⟨fun h=>?_,fun h=>?_⟩
 ·have h:a.length=b.length:=by omega
  refine zag (S:=fun k:Nat=>mkSt [(0,.p (.sl (ens a))),(1,.p (.sl (ens b))),(5,.p (.int .i64 k))] []) (I:=fun k=>k<=a.length/\a.take k=b.take k) (m:=fun k=>a.length - k) 0 (Weak.of (keep:=[0,1,5]) (ids:=[]) rfl) ⟨by omega,by simp⟩ ?_;rintro k ⟨h1,h2⟩ R hn hr hx;simp[g.uv,mkSt];refine⟨fun hk=>zae hk (zae (by omega) ⟨fun he=>?_,fun hne=>hr _ ?_⟩),fun hk=>hx _ _ ?_⟩
  ·rw[i64w (by omega) (by omega)];refine hn (k+1) _ (Weak.of (keep:=[0,1,5]) (ids:=[]) rfl) ⟨by omega,?_⟩ (by omega);rw[ymg hk,ymg (by omega),h2,zgn (by omega:a[k].toNat=b[k].toNat)]
  ·simp;intro hab;subst hab;exact hne rfl
  ·have:k=a.length:=by omega
   subst this;simp;rw[yml,h,yml]at h2;exact h2
 ·intro hab;subst hab;exact h rfl
deriving instance DecidableEq for GRat
theorem zcl(x y:GRat)(hx:x.sm 1073741824):Sp P F.ff [enc x,enc y] (.pure (.bool (decide (x=y)))):=by refine Sp.vz c.ff fun _=>?_;simp[g.ff];refine⟨fun h=>?_,fun h hxy=>h (by rw[hxy])⟩;refine zad (zr3 _ _ hx.1) rfl ?_;simp;refine⟨fun h2=>?_,fun h2 hxy=>h2 (by rw[hxy])⟩;refine zad (zr3 _ _ hx.2) rfl ?_;simp;exact⟨fun h3=>by cases x;cases y;simp_all,fun hxy=>by rw[hxy]⟩
theorem zxj(a b:Int)(ha : -9223372036854775808<=a/\a<=9223372036854775807)(hb : -9223372036854775808<=b/\b<=9223372036854775807) :
  Sp P F.ai [.int .i64 a,.int .i64 b] (.pure (.tup [enc (if b=0 then rto 0 else rto (Rat.divInt a b)),.int .i64 (if b=0 then 11 else 0)])):=by
 have hal:=zar (n:=a.natAbs) (k:=2) (by omega);have hbl:=zar (n:=b.natAbs) (k:=2) (by omega);refine Sp.vz c.ai fun _=>?_;simp[g.ai];refine⟨fun h=>by simp[h,zea],fun h=>?_⟩;refine zad (znv a ha.1 ha.2) rfl ?_;simp;refine zad (zov a.natAbs (by omega)) (by simp) ?_;simp;refine zad (znv b hb.1 hb.2) rfl ?_;simp;refine zad (zov b.natAbs (by omega)) (by simp) ?_;simp;refine zad (zlh ⟨decide (a<0) != decide (b<0),a.natAbs,b.natAbs⟩ (by simpa using h) ⟨by simp only[Fr.e];omega,by simp only[Fr.e];omega⟩) ?_ ?_
 ·simp[bne]
 ·simp[ztc,h]
theorem ygj(a b:Int)(ha : -9223372036854775808<=a/\a<=9223372036854775807)(hb : -9223372036854775808<=b/\b<=9223372036854775807)(h0:b≠0) :
  Sp P F.l8 [.int .i64 a,.int .i64 b] (.pure (enc (rto (Rat.divInt a b)))):=by
 refine Sp.vz c.l8 fun _=>?_;simp[g.l8];refine zad (zxj a b ha hb) rfl ?_;simp[h0]
theorem zaw{P:Program}{N:Nat}{Q:Exit->St->Prop}{b:GC}{ks:List Kt}{st:St}
  (h:∀ R:Exit->St->Prop,(∀ s,vL P N Q b ks s->R .normal s)->(∀ s,Q .ret s->R .ret s)->(∀ id s,zb8 P N Q (zay id ks) id s->R (.exit id) s)->vm P N R [.code b] st):vL P N Q b ks st:=by
 obtain⟨ex,s,r1,r2⟩:=zcy (P:=P) (N:=N) _ (ym9 _) (h (fun ex s=>(ex=.normal->vL P N Q b ks s)/\(ex ≠ .normal->semX P N Q ks ex s)) (fun s h=>⟨fun _=>h,fun h=>absurd rfl h⟩)
  (fun s h=>⟨fun h=>(by cases h),fun _=>zdk h⟩) (fun id s h=>⟨fun h=>(by cases h),fun _=>zll (by simp) h (.inr ⟨id,rfl⟩)⟩))
 by_cases he:ex=.normal
 ·subst he;obtain⟨ex,s2,q1,q2⟩:=r2.1 rfl;exact⟨ex,s2,.next _ _ _ _ r1 q1,q2⟩
 ·exact⟨ex,s,.out _ _ _ r1 he,r2.2 he⟩
structure Ex where
 a:Int
 b:Int
 c:Int
 deriving DecidableEq
instance:Enc Ex:=⟨fun x=>.agg [.int .i64 x.a,.int .i64 x.b,.int .i64 x.c],3,by decide,fun _=>rfl⟩
@[simp] theorem yl1(x:Ex):enc x=.agg [.int .i64 x.a,.int .i64 x.b,.int .i64 x.c]:=rfl
@[simp] theorem yin:Enc.sz Ex=3:=rfl
structure GMono where
 e:Ex
 coef:GRat
 deriving DecidableEq
instance:Enc GMono:=⟨fun x=>.agg [.int .i64 x.e.a,.int .i64 x.e.b,.int .i64 x.e.c,.bool x.coef.neg,.sl (ens x.coef.num),.sl (ens x.coef.den)],6,by decide,fun _=>rfl⟩
@[simp] theorem yis(x:GMono):enc x=.agg [.int .i64 x.e.a,.int .i64 x.e.b,.int .i64 x.e.c,.bool x.coef.neg,.sl (ens x.coef.num),.sl (ens x.coef.den)]:=rfl
@[simp] theorem yex:Enc.sz GMono=6:=rfl
def Ex.cmp(x y:Ex):Int:=if x.a<y.a then -1 else if y.a<x.a then 1 else if x.b<y.b then -1 else if y.b<x.b then 1 else if x.c<y.c then -1 else if y.c<x.c then 1 else 0
def Ex.ok(x:Ex):Bool:=decide (0<=x.a/\x.a<=5/\0<=x.b/\x.b<=5/\0<=x.c/\x.c<=5/\x.a+x.b+x.c<=5)
@[simp] theorem w0:IntKind.i64.wrap 0=0:=by decide
@[simp] theorem w1:IntKind.i64.wrap 1=1:=by decide
@[simp] theorem w2:IntKind.i64.wrap 2=2:=by decide
@[simp] theorem w3:IntKind.i64.wrap 3=3:=by decide
@[simp] theorem w4:IntKind.i64.wrap 4=4:=by decide
theorem zmj(x y:Ex):Sp P F.fj [enc x,enc y] (.pure (.int .i64 (x.cmp y))):=by
 refine Sp.vz c.fj fun _=>?_;simp[g.fj];refine zaw fun R hn hr hx=>?_;simp[g.o9];refine⟨fun h=>hn _ ?_,fun h=>⟨fun h'=>hr _ (by simp[Ex.cmp,h']),fun h'=>hr _ ?_⟩⟩
 ·refine zaw fun R hn hr hx=>?_;simp[g.o9];refine⟨fun h2=>hn _ ?_,fun h2=>⟨fun h'=>hr _ (by simp[Ex.cmp,h,h']),fun h'=>hr _ ?_⟩⟩
  ·refine zaw fun R hn hr hx=>?_;simp[g.o9];refine⟨fun h3=>hn _ ?_,fun h3=>⟨fun h'=>hr _ (by simp[Ex.cmp,h,h2,h']),fun h'=>hr _ ?_⟩⟩
   ·refine zaw fun R hn hr hx=>?_;simp[g.o9];refine hx _ _ ?_;simp[Ex.cmp,h,h2,h3]
   ·have:y.c<x.c:=by omega
    have h4:¬ x.c<y.c:=by omega
    simp[Ex.cmp,h,h2,h4,this]
  ·have:y.b<x.b:=by omega
   have h4:¬ x.b<y.b:=by omega
   simp[Ex.cmp,h,h4,this]
 ·have:y.a<x.a:=by omega
  have h4:¬ x.a<y.a:=by omega
  simp[Ex.cmp,h4,this]
theorem zmf(x:Ex):Sp P F.jk [enc x] (.pure (.bool x.ok)):=by
 refine Sp.vz c.jk fun _=>?_;simp[g.jk];have bad:¬ (0<=x.a/\x.a<=5/\0<=x.b/\x.b<=5/\0<=x.c/\x.c<=5)->x.ok=false:=fun h=>by unfold Ex.ok;exact decide_eq_false (fun h'=>h (by omega))
 refine zaw fun R hn hr hx=>?_;simp[g.o8];refine⟨fun h=>hr _ (by simp[bad (by omega)]),fun h=>⟨fun h'=>hr _ (by simp[bad (by omega)]),fun h'=>hn _ ?_⟩⟩;rw[i64w (by omega) (by omega)];refine zaw fun R hn hr hx=>?_;simp[g.o8];refine⟨fun h2=>hr _ (by simp[bad (by omega)]),fun h2=>⟨fun h2'=>hr _ (by simp[bad (by omega)]),fun h2'=>hn _ ?_⟩⟩;rw[i64w (by omega) (by omega)];refine zaw fun R hn hr hx=>?_;simp[g.o8];refine⟨fun h3=>hr _ (by simp[bad (by omega)]),fun h3=>⟨fun h3'=>hr _ (by simp[bad (by omega)]),fun h3'=>hn _ ?_⟩⟩;rw[i64w (by omega) (by omega)];refine zaw fun R hn hr hx=>?_;simp[g.o8];refine hx _ _ ?_;simp[Ex.ok];simp[h,h',h2,h2',h3,h3']
def GMono.ok(m:GMono):Bool:=m.e.ok&&m.coef.valid&&decide (m.coef.v≠0)
def PVal(p:List GMono):Prop:=∀ i,(h:i<p.length)->p[i].ok=true/\(0<i->p[i].e.cmp (p[i - 1]'(by omega)).e<0)
noncomputable instance (p:List GMono):Decidable (PVal p):=Classical.propDecidable _
noncomputable def pv(p:List GMono):List GMono:=if PVal p then p else[]
def psm(p:List GMono)(n:Nat):Prop:=∀ m∈p,m.coef.sm n
theorem zfg(q:Rat):sgnR q=0 ↔ q=0:=by have hz:q=0 ↔ q.num=0:=Rat.num_eq_zero.symm;unfold sgnR;rw[hz];(repeat' split)<;>omega
theorem zrq(p:List GMono)(hp:psm p 1048576)(hl:p.length<=1073741824):Sp P F.iz [.sl (ens p)] (.pure (.bool (decide (PVal p)))):=by
 refine Sp.vz c.iz fun _=>?_;simp[g.iz];refine zag (S:=fun k:Nat=>mkSt [(0,.p (.sl (ens p))),(3,.p (.int .i64 k))] []) (I:=fun k=>k<=p.length/\∀ i,(h:i<p.length)->i<k->p[i].ok=true/\(0<i->p[i].e.cmp (p[i - 1]'(by omega)).e<0)) (m:=fun k=>p.length - k) 0 (Weak.of (keep:=[0,3]) (ids:=[]) rfl) ⟨by omega,fun i h h0=>by omega⟩ ?_;rintro k ⟨h1,h2⟩ R hn hr hx;simp[g.tv,mkSt];refine⟨fun hk=>?_,fun hk=>hx _ _ ?_⟩
 ·refine zae hk ?_;have bad:p[k].ok=false->decide (PVal p)=false:=fun h=>decide_eq_false fun hv=>by have:=(hv k hk).1;rw[h]at this;cases this
  refine zaa (zmf p[k].e) rfl ?_;rcases yms p[k].e.ok with h3|h3;rotate_left
  ·simp[h3];refine hr _ ?_;simp;simpa using bad (by simp[GMono.ok,h3])
  simp[h3];refine zae hk ?_;have hsm:p[k].coef.sm 1048576:=hp _ (ym7 hk);refine zaa (ziv p[k].coef (hsm.mono (by omega))) rfl ?_;rcases yms p[k].coef.valid with h4|h4;rotate_left
  ·simp[h4];refine hr _ ?_;simp;simpa using bad (by simp[GMono.ok,h4])
  simp[h4];refine zae hk ?_;refine zaa (ziy p[k].coef (hsm.mono (by omega))) rfl ?_;simp[zfg];refine⟨fun h5=>?_,fun h5=>?_⟩
  ·refine hr _ ?_;simp;simpa using bad (by simp[GMono.ok,h5])
  have hok:p[k].ok=true:=by simp[GMono.ok,h3,h4,h5]
  have e1:IntKind.i64.wrap ((k:Int) - 1)=(k:Int) - 1:=i64w (by omega) (by omega);have e2:((k:Int) - 1).toNat=k - 1:=by omega
  have e3:=i64s k;have step:(0<k->p[k].e.cmp (p[k - 1]'(by omega)).e<0)->∀ i,(h:i<p.length)->i<k+1->p[i].ok=true/\(0<i->p[i].e.cmp (p[i - 1]'(by omega)).e<0):=fun hc i h hi=>by
   by_cases hik:i<k
   ·exact h2 i h hik
   ·have:i=k:=by omega
    subst this;exact⟨hok,hc⟩
  refine⟨fun h6=>?_,fun h6=>?_⟩
  ·refine zae hk ?_;simp[e1,e2];refine zae (by omega) ⟨by omega,?_⟩;refine zaa (zmj p[k].e (p[k - 1]'(by omega)).e) rfl ?_;simp[e3];refine⟨fun h7=>hr _ ?_,fun h7=>?_⟩
   ·simp;exact fun hv=>by have:=(hv k hk).2 h6;omega
   ·exact hn (k+1) _ (Weak.of (keep:=[0,3]) (ids:=[]) rfl) ⟨by omega,step fun _=>h7⟩ (by omega)
  ·simp[e3];exact hn (k+1) _ (Weak.of (keep:=[0,3]) (ids:=[]) rfl) ⟨by omega,step fun h=>by omega⟩ (by omega)
 ·have:k=p.length:=by omega
  subst this;have:PVal p:=fun i h=>h2 i h h;simp[this]
theorem psm.mono{p:List GMono}{m n:Nat}(h:psm p m)(k:m<=n):psm p n:=fun x hx=>(h x hx).mono k
theorem zk8(p:List GMono)(hp:psm p 1048576)(hl:p.length<=1073741824):Sp P F.jj [.sl (ens p)] (.pure (.sl (ens (pv p)))):=by
 refine Sp.vz c.jj fun _=>?_;simp[g.jj];refine zaa (zrq p hp hl) rfl ?_;by_cases hv:PVal p;rotate_left
 ·simp[hv,pv]
 simp[hv,pv]
 refine zag (S:=fun x:Nat × List GMono=>mkSt [(0,.p (.sl (ens p))),(3,.own 1 0 0 x.2.length),(4,.p (.int .i64 x.1))] [(1,⟨6,avs x.2⟩)]) (I:=fun x=>x.1<=p.length/\x.2=p.take x.1) (m:=fun x=>p.length - x.1) (0,[])
  (Weak.nl 3 1 6 rfl (Weak.to [0,3,4] [((1,0),1)] (by simp))) ⟨by omega,by simp⟩ ?_
 rintro⟨k,l⟩ ⟨h1,h2⟩ R hn hr hx;simp at h1 h2 ⊢;have hll:l.length=k:=by rw[h2];simp;omega
 simp[g.ur,mkSt];refine⟨fun hk=>?_,fun hk=>hx _ _ ?_⟩
 ·refine zae hk ?_
  skip
  refine zae hk ?_;have ok:=(hv k hk).1;have hva:p[k].coef.valid=true:=by simp[GMono.ok]at ok;exact ok.1.2
  refine zaa (zfx p[k].coef ((hp _ (ym7 hk)).mono (by omega))) rfl ?_;rw[zib hva];simp;have e3:=i64s k;rw[e3];refine⟨by omega,hn (k+1,l++[p[k]]) _ (Weak.to [0,3,4] [((28,0),1)] (by simp)) ⟨by omega,?_⟩ (by simp;omega)⟩;show l++[p[k]]=p.take (k+1);rw[h2,ymg hk]
 ·have:k=p.length:=by omega
  have hl2:l=p:=by rw[h2,this,yml]
  subst hl2;simp
theorem yah(p:List GMono):PVal (pv p):=by
 unfold pv;split
 ·assumption
 ·intro i h;simp at h
theorem yai{p:List GMono}{n:Nat}(h:psm p n):psm (pv p) n:=by
 unfold pv;split
 ·exact h
 ·intro x hx;simp at hx
theorem yaj(p:List GMono):(pv p).length<=p.length:=by unfold pv;split<;>simp
theorem zy1{p:List GMono}(h:PVal p):pv p=p:=by simp[pv,h]
def pat:List GMono->Ex->Nat
 | [],_=>0
 | m::p,e=>if 0<m.e.cmp e then pat p e+1 else 0
theorem ygf(p:List GMono)(e:Ex):pat p e<=p.length:=by
 induction p with
 | nil=>simp[pat]
 | cons m p ih=>simp only[pat];split<;>simp<;>omega
theorem yge{p:List GMono}{e:Ex}{i:Nat}(h:i<pat p e):∃ h:i<p.length,0<p[i].e.cmp e:=by
 induction p generalizing i with
 | nil=>simp[pat]at h
 | cons m p ih =>
  simp only[pat]at h;split at h
  ·rename_i hm;cases i with
   | zero=>exact⟨by simp,by simpa using hm⟩
   | succ i=>obtain⟨h1,h2⟩:=ih (by omega:i<pat p e);exact⟨by simp;omega,by simpa using h2⟩
  ·omega
theorem ygg{p:List GMono}{e:Ex}(h:pat p e<p.length):¬ 0<p[pat p e].e.cmp e:=by
 induction p with
 | nil=>simp at h
 | cons m p ih =>
  by_cases hm:0<m.e.cmp e
  ·have:pat (m::p) e=pat p e+1:=by simp[pat,hm]
   simp only[this,List.getElem_cons_succ];exact ih (by simp[this]at h;omega)
  ·have:pat (m::p) e=0:=by simp[pat,hm]
   simp only[this,List.getElem_cons_zero];exact hm
theorem z7q{p:List GMono}{e:Ex}{k:Nat}(h1:k<=p.length)(h2:∀ i,(h:i<p.length)->i<k->0<p[i].e.cmp e)(h3:∀ h:k<p.length,¬ 0<p[k].e.cmp e):k=pat p e:=by
 rcases yqn k (pat p e)with h|h|h
 ·obtain⟨a,b⟩:=yge h;exact absurd b (h3 a)
 ·exact h
 ·have:=ygf p e;exact absurd (h2 _ (by omega) h) (ygg (by omega))
def pput(p:List GMono)(e:Ex)(q:Rat):List GMono :=
 if e.ok=false\/q=0 then p else
 match p[pat p e]? with
 | none=>p++[⟨e,rto q⟩]
 | some m=>if m.e=e then(if q+m.coef.v=0 then p.take (pat p e)++p.drop (pat p e+1)else p.take (pat p e)++⟨e,rto (q+m.coef.v)⟩::p.drop (pat p e+1))else p.take (pat p e)++⟨e,rto q⟩::p.drop (pat p e)
theorem Ex.cmp_zero{x y:Ex}:x.cmp y=0 ↔ x=y:=by unfold Ex.cmp;obtain⟨a,b,c⟩:=x;obtain⟨a',b',c'⟩:=y;simp only[Ex.mk.injEq];(repeat' split)<;>omega
theorem zql{α : Type}[Enc α]{n:Nat}{st:St}{es:List AV}{l l':List α}(h:es=avs l)(k:l=l'):es.mapM (toPV st (n+1))=some (ens l'):=by rw[h,k,zxi]
attribute [local simp] zaj Opd.slots
theorem ycd(p:List GMono)(m:GMono)(hp:psm p 1048576)(hl:p.length<=1073741823)(hm:m.coef.sm 1048576)(hv:m.coef.valid=true):Sp P F.ni [.sl (ens p),enc m] (.pure (.sl (ens (pput p m.e m.coef.v)))):=by
 refine Sp.vz c.ni fun _=>?_;simp[g.ni];refine zaa (zmf m.e) rfl ?_;rcases yms m.e.ok with h3|h3;rotate_left
 ·simp[h3,pput]
 simp[h3];refine zaa (ziy m.coef (hm.mono (by omega))) rfl ?_;simp[zfg];refine⟨fun h0=>by simp[h0,pput],fun h0=>?_⟩
 refine zag (S:=fun k:Nat=>mkSt [(0,.p (.sl (ens p))),(3,.ptr 1 0 0 0),(5,.p (.int .i64 k))] [(1,⟨6,[.p (enc m)]⟩)]) (I:=fun k=>k<=p.length/\∀ i,(h:i<p.length)->i<k->0<p[i].e.cmp m.e) (m:=fun k=>p.length - k) 0
  (Weak.to [0,3,5] [((3,0),1)] (by simp)) ⟨by omega,fun i h h0=>by omega⟩ ?_
 rintro k ⟨h1,h2⟩ R hn hr hx;have e1:=i64s k;have fin:(∀ h:k<p.length,¬ 0<p[k].e.cmp m.e)->R (.exit 0) (mkSt [(0,.p (.sl (ens p))),(3,.ptr 1 0 0 0),(5,.p (.int .i64 k))] [(1,⟨6,[.p (enc m)]⟩)]):=by
  intro h5;refine hx _ _ ?_;have hk:=z7q h1 h2 h5;have hmin:min k p.length=k:=yoc h1;simp[mkSt,h1];refine⟨by omega,fun h6=>?_,fun h6=>?_⟩
  ·refine⟨by omega,by omega,by omega,?_⟩;have h7:p.drop k=[]:=by rw[List.drop_eq_nil_iff];omega
   refine zql (l:=p++[m]) ?_ ?_
   ·rw[ymh (by simp[h7];omega),h7,show p.take k=p by rw[ymh (by omega)]];simp
   ·have h8:p[k]?=none:=by rw[List.getElem?_eq_none_iff];omega
    simp[pput,h3,h0,<- hk,h8,zib hv]
  have hkl:k<p.length:=by omega
  refine zae hkl ?_;refine zaa (zmj p[k].e m.e) rfl ?_;simp;have hts:(p.drop k).take (p.length - k)=p[k]::p.drop (k+1):=by rw[ymh (by simp),ynt hkl]
  have h8:p[k]?=some p[k]:=yma hkl;refine⟨fun h9=>?_,fun h9=>?_⟩
  ·have h10:=Ex.cmp_zero.1 h9;refine zae hkl ?_;refine zaa (zvu m.coef p[k].coef hm (hp _ (ym7 hkl))) rfl ?_;simp;refine zaa (ziy (rto (m.coef.v+p[k].coef.v)) ((zoi hm (hp _ (ym7 hkl)) (by omega)).mono (by omega))) rfl ?_;rw[zgm];simp[zfg,hmin,e1];have hts2:(p.drop (k+1)).take (p.length - (k+1))=p.drop (k+1):=by rw[ymh (by simp)]
   rw[hts2];refine⟨fun h11=>⟨⟨by omega,by omega⟩,by omega,zql (l:=p.take k++p.drop (k+1)) ?_ ?_⟩,fun h11=>⟨by omega,⟨by omega,by omega⟩,by omega,by omega,zql (l:=p.take k++⟨m.e,rto (m.coef.v+p[k].coef.v)⟩::p.drop (k+1)) ?_ ?_⟩⟩
   ·rw[ymh (by simp;omega)];simp
   ·simp[pput,h3,h0,<- hk,h8,h10,h11]
   ·rw[ymh (by simp;omega)];simp
   ·simp[pput,h3,h0,<- hk,h8,h10,h11]
  ·refine⟨⟨hmin.symm,by omega⟩,h1,⟨hmin.symm,by omega⟩,by omega,?_⟩;rw[hts];refine zql (l:=p.take k++m::p[k]::p.drop (k+1)) ?_ ?_
   ·rw[ymh (by simp;omega)];simp
   ·have h10:p[k].e≠m.e:=fun h=>h9 (Ex.cmp_zero.2 h);simp[pput,h3,h0,<- hk,h8,zib hv,h10]
 clear hx;simp[g.vd,mkSt]at fin ⊢;refine⟨fun hk=>?_,fun hk=>fin fun h=>by omega⟩;refine zae hk ?_;refine zaa (zmj p[k].e m.e) rfl ?_;simp[e1];refine⟨fun h4=>hn (k+1) _ (Weak.to [0,3,5] [((1,0),1)] (by simp)) ⟨by omega,fun i h hi=>?_⟩ (by omega),fun h4=>fin fun _=>h4⟩;by_cases hik:i<k
 ·exact h2 i h hik
 ·have:i=k:=by omega
  subst this;exact h4
end Go.Ab
namespace Go.Ab
open Enc (enc)
def qb(D B:Nat)(q:Rat):Prop:=∃ a:Int,q=mkRat a D/\a.natAbs<=B
theorem yag{D B B':Nat}{x y:Rat}(hx:qb D B x)(hy:qb D B' y)(hD:D≠0):qb D (B+B') (x+y):=by obtain⟨a,rfl,h1⟩:=hx;obtain⟨b,rfl,h2⟩:=hy;refine⟨a+b,?_,by omega⟩;rw[Rat.mkRat_add_mkRat _ _ hD hD,<- Int.add_mul,Rat.mkRat_mul_right hD]
theorem zle{D B:Nat}{x:Rat}(k:Nat)(hk:k≠0)(hx:qb D B x):qb (D*k) (B*k) x:=by
 obtain⟨a,rfl,h1⟩:=hx;refine⟨a*k,?_,?_⟩
 ·rw[Rat.mkRat_mul_right hk]
 ·rw[Int.natAbs_mul];exact ymf h1 (by simp)
theorem z2c(D:Nat):qb D 0 0:=⟨0,by simp,by simp⟩
theorem zp6{D B B':Nat}{x:Rat}(h:qb D B x)(k:B<=B'):qb D B' x:=by obtain⟨a,e,h⟩:=h;exact⟨a,e,by omega⟩
theorem yf6{D B n:Nat}{x:Rat}(h:qb D B x)(hD:D≠0)(h1:D<4294967296^n)(h2:B<4294967296^n):(rto x).sm n:=by
 obtain⟨a,rfl,h⟩:=h;have e1:(mkRat a D).num.natAbs<=B:=by rw[Rat.num_mkRat,yl9 hD];exact ym6 (Int.natAbs_ediv_le_natAbs _ _) h
 have e2:(mkRat a D).den<=D:=by rw[Rat.den_mkRat,yl9 hD];exact yop _ _
 refine⟨zar (ynw e1 h2),?_⟩;show(if (mkRat a D).den=1 then[]else lb (mkRat a D).den).length<=n;split
 ·simp
 ·exact zar (ynw e2 h1)
def Ex.code(e:Ex):Int:=e.a*36+e.b*6+e.c
theorem Ex.ok_iff{e:Ex}:e.ok=true ↔ (0<=e.a/\e.a<=5/\0<=e.b/\e.b<=5/\0<=e.c/\e.c<=5/\e.a+e.b+e.c<=5):=by simp[Ex.ok]
theorem Ex.code_lt{e:Ex}(h:e.ok=true):0<=e.code/\e.code<216:=by rw[Ex.ok_iff]at h;unfold Ex.code;omega
theorem Ex.cmp_neg{x y:Ex}(hx:x.ok=true)(hy:y.ok=true):x.cmp y<0 ↔ x.code<y.code:=by rw[Ex.ok_iff]at hx hy;unfold Ex.cmp Ex.code;(repeat' split)<;>omega
theorem Ex.cmp_pos{x y:Ex}(hx:x.ok=true)(hy:y.ok=true):0<x.cmp y ↔ y.code<x.code:=by rw[Ex.ok_iff]at hx hy;unfold Ex.cmp Ex.code;(repeat' split)<;>omega
theorem Ex.code_inj{x y:Ex}(hx:x.ok=true)(hy:y.ok=true):x.code=y.code ↔ x=y:=by rw[Ex.ok_iff]at hx hy;unfold Ex.code;obtain⟨a,b,c⟩:=x;obtain⟨a',b',c'⟩:=y;simp only[Ex.mk.injEq]at *;omega
theorem zam{p:List GMono}:PVal p ↔ (∀ m∈p,m.ok=true)/\p.Pairwise (fun x y=>y.e.code<x.e.code):=by
 have ok_e:∀ {m:GMono},m.ok=true->m.e.ok=true:=fun h=>by simp[GMono.ok]at h;exact h.1.1
 constructor
 ·intro h;have h1:∀ m∈p,m.ok=true:=fun m hm=>by obtain⟨i,hi,rfl⟩:=List.getElem_of_mem hm;exact(h i hi).1
  refine⟨h1,yqs.2 fun i j hi hj hij=>?_⟩;obtain⟨d,rfl⟩:∃ d,j=i+1+d:=⟨j - i - 1,by omega⟩;clear hij
  induction d with
  | zero =>
   have:=(h (i+1) hj).2 (by omega);exact(Ex.cmp_neg (ok_e (h1 _ (ym7 _))) (ok_e (h1 _ (ym7 _)))).1 this
  | succ d ih =>
   have h2:=ih (by omega);have h3:=(h (i+1+(d+1)) hj).2 (by omega);have h4:=(Ex.cmp_neg (ok_e (h1 _ (ym7 _))) (ok_e (h1 _ (ym7 _)))).1 h3;exact Int.lt_trans h4 h2
 ·rintro⟨h1,h2⟩ i hi;refine⟨h1 _ (ym7 hi),fun h0=>?_⟩;refine(Ex.cmp_neg (ok_e (h1 _ (ym7 _))) (ok_e (h1 _ (ym7 _)))).2 ?_;exact yqs.1 h2 (i - 1) i (by omega) hi (by omega)
def pc:List GMono->Ex->Rat
 | [],_=>0
 | m::p,e=>(if m.e=e then m.coef.v else 0)+pc p e
theorem zmi(p q:List GMono)(e:Ex):pc (p++q) e=pc p e+pc q e:=by
 induction p with
 | nil=>simp[pc,yoz]
 | cons m p ih=>simp[pc,ih,yog]
theorem zie{p:List GMono}{e:Ex}(h:∀ m∈p,m.e≠e):pc p e=0:=by
 induction p with
 | nil=>rfl
 | cons m p ih=>simp only[pc,yl9 (h m (by simp)),yoz];exact ih fun x hx=>h x (by simp[hx])
theorem zg1{m:GMono}{p:List GMono}(h:PVal (m::p)):pc (m::p) m.e=m.coef.v:=by have:=zam.1 h;simp only[pc,ym2];rw[zie,ynp];intro x hx he;have:=(ymv.1 this.2).1 x hx;rw[he]at this;omega
theorem PVal.tail{m:GMono}{p:List GMono}(h:PVal (m::p)):PVal p:=by have:=zam.1 h;exact zam.2 ⟨fun x hx=>this.1 x (by simp[hx]),(ymv.1 this.2).2⟩
theorem zp7{p q:List GMono}(hp:PVal p)(hq:PVal q)(h:∀ e,pc p e=pc q e):p=q:=by
 have okm:∀ {m:GMono},m.ok=true->m.e.ok=true/\m.coef.valid=true/\m.coef.v≠0:=fun h=>by simp[GMono.ok]at h;exact⟨h.1.1,h.1.2,h.2⟩
 induction p generalizing q with
 | nil =>
  cases q with
  | nil=>rfl
  | cons m q =>
   have:=h m.e;rw[zg1 hq]at this;exact absurd this.symm (okm ((zam.1 hq).1 m (by simp))).2.2
 | cons m p ih =>
  cases q with
  | nil =>
   have:=h m.e;rw[zg1 hp]at this;exact absurd this (okm ((zam.1 hp).1 m (by simp))).2.2
  | cons m' q =>
   have o1:=okm ((zam.1 hp).1 m (by simp));have o2:=okm ((zam.1 hq).1 m' (by simp));have he:m.e=m'.e:=by
    rcases yra m.e.code m'.e.code with h1|h1|h1
    ·have:=h m'.e;rw[zg1 hq,zie]at this
     ·exact absurd this.symm o2.2.2
     ·intro x hx hxe;rcases ym3.1 hx with rfl|hx
      ·rw[hxe]at h1;omega
      ·have:=(ymv.1 (zam.1 hp).2).1 x hx;rw[hxe]at this;omega
    ·exact(Ex.code_inj o1.1 o2.1).1 h1
    ·have:=h m.e;rw[zg1 hp,zie]at this
     ·exact absurd this o1.2.2
     ·intro x hx hxe;rcases ym3.1 hx with rfl|hx
      ·rw[hxe]at h1;omega
      ·have:=(ymv.1 (zam.1 hq).2).1 x hx;rw[hxe]at this;omega
   have hc:m.coef=m'.coef:=by have:=h m.e;rw[zg1 hp,he,zg1 hq]at this;rw[<- zib o1.2.1,<- zib o2.2.1,this]
   have hm:m=m':=by cases m;cases m';simp at he hc;simp[he,hc]
   subst hm
   congr 1
   refine ih hp.tail hq.tail fun e=>?_;have:=h e;simp only[pc]at this;exact Rat.add_left_cancel _ this
def pins:List GMono->Ex->Rat->List GMono
 | [],e,q=>[⟨e,rto q⟩]
 | m::p,e,q=>if 0<m.e.cmp e then m::pins p e q else if m.e=e then(if q+m.coef.v=0 then p else⟨e,rto (q+m.coef.v)⟩::p)else⟨e,rto q⟩::m::p
theorem zmd(p:List GMono)(e:Ex)(q:Rat):pput p e q=if e.ok=false\/q=0 then p else pins p e q:=by
 unfold pput;split
 ·rfl
 ·rename_i h
  induction p with
  | nil=>simp[pat,pins]
  | cons m p ih =>
   by_cases h1:0<m.e.cmp e
   ·simp only[pat,ym0 h1,List.getElem?_cons_succ,ypf,yqi,pins,<- ih];cases p[pat p e]? with
    | none=>simp
    | some x=>simp only[yon];(repeat' split)<;>rfl
   ·simp[pat,pins,h1]
theorem GMono.ok_iff{m:GMono}:m.ok=true ↔ m.e.ok=true/\m.coef.valid=true/\m.coef.v≠0:=by simp[GMono.ok,and_assoc]
theorem z7m{p:List GMono}{e:Ex}{q:Rat}{x:GMono}(h:x∈pins p e q):x.e=e\/x∈p:=by
 induction p with
 | nil=>simp[pins]at h;exact .inl (by rw[h])
 | cons m p ih =>
  simp only[pins]at h;split at h
  ·rcases ym3.1 h with rfl|h
   ·exact .inr (by simp)
   ·rcases ih h with h|h
    ·exact .inl h
    ·exact .inr (by simp[h])
  ·split at h
   ·split at h
    ·exact .inr (by simp[h])
    ·rcases ym3.1 h with rfl|h
     ·exact .inl rfl
     ·exact .inr (by simp[h])
   ·rcases ym3.1 h with rfl|h
    ·exact .inl rfl
    ·exact .inr h
theorem z7l{p:List GMono}{e:Ex}{q:Rat}(hp:PVal p)(he:e.ok=true)(hq:q≠0):PVal (pins p e q):=by
 have okq:∀ {r:Rat},r≠0->(⟨e,rto r⟩:GMono).ok=true:=fun {r} h=>GMono.ok_iff.2 ⟨he,zfi r,by rw[zgm];exact h⟩
 induction p with
 | nil=>exact zam.2 ⟨fun m hm=>by simp[pins]at hm;rw[hm];exact okq hq,by simp[pins]⟩
 | cons m p ih =>
  have h:=zam.1 hp;have ho:=(GMono.ok_iff.1 (h.1 m (by simp))).1;have h1:=(ymv.1 h.2).1;simp only[pins];split
  ·rename_i h2;have h3:=zam.1 (ih hp.tail);refine zam.2 ⟨fun x hx=>?_,ymv.2 ⟨fun x hx=>?_,h3.2⟩⟩
   ·rcases ym3.1 hx with rfl|hx
    ·exact h.1 x (by simp)
    ·exact h3.1 x hx
   ·rcases z7m hx with h4|h4
    ·rw[h4];exact(Ex.cmp_pos ho he).1 h2
    ·exact h1 x h4
  ·rename_i h2;split
   ·rename_i h3;split
    ·exact hp.tail
    ·rename_i h4;refine zam.2 ⟨fun x hx=>?_,ymv.2 ⟨fun x hx=>?_,(zam.1 hp.tail).2⟩⟩
     ·rcases ym3.1 hx with rfl|hx
      ·exact okq h4
      ·exact h.1 x (by simp[hx])
     ·have:=h1 x hx;rw[h3]at this;exact this
   ·rename_i h3;have h4:m.e.code<e.code:=by have h5:¬ (e.code<m.e.code):=fun h=>h2 ((Ex.cmp_pos ho he).2 h);have h6:¬ (m.e.code=e.code):=fun h=>h3 ((Ex.code_inj ho he).1 h);omega
    refine zam.2 ⟨fun x hx=>?_,ymv.2 ⟨fun x hx=>?_,h.2⟩⟩
    ·rcases ym3.1 hx with rfl|hx
     ·exact okq hq
     ·exact h.1 x hx
    ·rcases ym3.1 hx with rfl|hx
     ·exact h4
     ·exact Int.lt_trans (h1 x hx) h4
theorem ycs(p:List GMono)(e:Ex)(q:Rat)(e':Ex):pc (pins p e q) e'=pc p e'+if e=e' then q else 0:=by
 induction p with
 | nil=>simp only[pins,pc,zgm,ynp,yoz]
 | cons m p ih =>
  simp only[pins];split
  ·simp only[pc,ih,yog]
  ·split
   ·rename_i h;split
    ·rename_i h2;simp only[pc,h];by_cases h3:e=e'
     ·simp only[ym0 h3];rw[yp0 (m.coef.v) (pc p e'),yog,yp0 m.coef.v q,h2,ynp]
     ·simp[h3,yoz,ynp]
    ·simp only[pc,h,zgm];by_cases h3:e=e'
     ·simp only[ym0 h3];rw[yp0 q m.coef.v,yog,yog,yp0 q (pc p e')]
     ·simp[h3,yoz,ynp]
   ·simp only[pc,zgm];rw[yp0]
theorem z7f{p:List GMono}(e:Ex)(q:Rat)(hp:PVal p):PVal (pput p e q):=by
 rw[zmd];split
 ·exact hp
 ·rename_i h;exact z7l hp (by rcases yms e.ok with h'|h';exact h';exact absurd (.inl h') h) (fun h'=>h (.inr h'))
theorem ycr(p:List GMono)(e:Ex)(q:Rat)(e':Ex):pc (pput p e q) e'=pc p e'+if e.ok=true/\e=e' then q else 0:=by
 rw[zmd];split
 ·rename_i h;rcases h with h|h
  ·simp[h,ynp]
  ·simp[h,ynp]
 ·rename_i h;have:e.ok=true:=by rcases yms e.ok with h'|h';exact h';exact absurd (.inl h') h
  rw[ycs];simp[this]
theorem zfz{p:List GMono}(h:PVal p):p.length<=216:=by
 have h1:=zam.1 h;have:∀ (p:List GMono) (n:Int),(∀ m∈p,0<=m.e.code/\m.e.code<n)->p.Pairwise (fun x y=>y.e.code<x.e.code)->(p.length:Int)<=n\/p=[]:=by
  intro p
  induction p with
  | nil=>intro n _ _;exact .inr rfl
  | cons m p ih =>
   intro n h2 h3;have h4:=ymv.1 h3;rcases ih m.e.code (fun x hx=>⟨(h2 x (by simp[hx])).1,h4.1 x hx⟩) h4.2 with h5|h5
   ·have:=h2 m (by simp);left;simp;omega
   ·have:=h2 m (by simp);left;subst h5;simp;omega
 rcases this p 216 (fun m hm=>Ex.code_lt (GMono.ok_iff.1 (h1.1 m hm)).1) h1.2 with h2|h2
 ·omega
 ·simp[h2]
end Go.Ab
namespace Go.Ab
open Enc (enc)
attribute [local simp] zaj Opd.slots
theorem zwv{p:List GMono}(hp:PVal p){m:GMono}(hm:m∈p):pc p m.e=m.coef.v:=by
 induction p with
 | nil=>simp at hm
 | cons x p ih =>
  rcases ym3.1 hm with rfl|hm
  ·exact zg1 hp
  ·have h1:=(ymv.1 (zam.1 hp).2).1 m hm;have h2:x.e≠m.e:=fun h=>by rw[h]at h1;omega
   simp only[pc,yl9 h2,yoz];exact ih hp.tail hm
theorem ycq{p:List GMono}(hp:PVal p)(k:Nat)(e:Ex):pc (p.take k) e=0\/pc (p.take k) e=pc p e:=by
 induction p generalizing k with
 | nil=>simp[pc]
 | cons x p ih =>
  cases k with
  | zero=>simp[pc]
  | succ k =>
   by_cases h:x.e=e
   ·right;subst h;rw[zg1 hp,ypf];simp only[pc,ym2];rw[zie,ynp];intro y hy he;have:=(ymv.1 (zam.1 hp).2).1 y (yn9 hy);rw[he]at this;omega
   ·simp only[ypf,pc,yl9 h,yoz];exact ih hp.tail k
def pqb(D B:Nat)(p:List GMono):Prop:=∀ e,qb D B (pc p e)
theorem zuk{D B n:Nat}{p:List GMono}(h:pqb D B p)(hp:PVal p)(hD:D≠0)(h1:D<4294967296^n)(h2:B<4294967296^n):psm p n:=by intro m hm;have h3:=GMono.ok_iff.1 ((zam.1 hp).1 m hm);have:=yf6 (h m.e) hD h1 h2;rw[zwv hp hm,zib h3.2.1]at this;exact this
theorem zur:PVal []:=fun i h=>by simp at h
def padd(p q:List GMono):List GMono:=q.foldl (fun o m=>pput o m.e m.coef.v) p
theorem zcn{p:List GMono}(q:List GMono)(hp:PVal p):PVal (padd p q):=by
 induction q generalizing p with
 | nil=>exact hp
 | cons m q ih=>exact ih (z7f _ _ hp)
theorem zf0(p:List GMono){q:List GMono}(hq:∀ m∈q,m.ok=true)(e:Ex):pc (padd p q) e=pc p e+pc q e:=by
 induction q generalizing p with
 | nil=>simp[padd,pc,ynp]
 | cons m q ih =>
  have:=ih (pput p m.e m.coef.v) fun x hx=>hq x (by simp[hx]);show pc (padd (pput p m.e m.coef.v) q) e=_;rw[this,ycr];have:=(GMono.ok_iff.1 (hq m (by simp))).1;simp[pc,this,yog]
theorem PVal.take{p:List GMono}(hp:PVal p)(k:Nat):PVal (p.take k):=by have:=zam.1 hp;exact zam.2 ⟨fun x hx=>this.1 x (yn9 hx),this.2.sublist (List.take_sublist _ _)⟩
theorem z7e{D B:Nat}{p:List GMono}(h:pqb D B p)(hp:PVal p)(k:Nat):pqb D B (p.take k):=by
 intro e;rcases ycq hp k e with h1|h1
 ·rw[h1];exact zp6 (z2c D) (by omega)
 ·rw[h1];exact h e
theorem yce{D B B':Nat}{p q:List GMono}(h:pqb D B p)(h':pqb D B' q)(hq:PVal q)(hD:D≠0):pqb D (B+B') (padd p q):=by intro e;rw[zf0 p (zam.1 hq).1];exact yag (h e) (h' e) hD
theorem zn0{p q:List GMono}{k:Nat}(h:k<q.length):padd p (q.take (k+1))=pput (padd p (q.take k)) q[k].e q[k].coef.v:=by unfold padd;rw[ymg h,yo1];rfl
theorem yen(p q:List GMono)(D B B':Nat)(hp:PVal p)(hq:PVal q)(h1:pqb D B p)(h2:pqb D B' q)(hD0:D≠0)(hD:D<4294967296^1048576)(hB:B+B'<4294967296^1048576) :
  Sp P F.mm [.sl (ens p),.sl (ens q)] (.pure (.sl (ens (padd p q)))):=by
 have hbp:psm p 1048576:=zuk h1 hp hD0 hD (ynw (Nat.le_add_right _ _) hB);have hbq:psm q 1048576:=zuk h2 hq hD0 hD (ynw (Nat.le_add_left _ _) hB);have hpl:=zfz hp;have hql:=zfz hq;have hb:∀ k,psm (padd p (q.take k)) 1048576:=fun k=>zuk (yce h1 (z7e h2 hq k) (hq.take k) hD0) (zcn _ hp) hD0 hD hB;clear hD hB;refine Sp.vz c.mm fun _=>?_;simp[g.mm];refine zaa (zk8 p hbp (by omega)) rfl ?_;simp;refine zaa (zk8 q hbq (by omega)) rfl ?_;simp[zy1 hp,zy1 hq]
 refine zag (S:=fun k:Nat=>mkSt [(1,.p (.sl (ens q))),(5,.p (.sl (ens (padd p (q.take k))))),(6,.p (.int .i64 k))] []) (I:=fun k=>k<=q.length) (m:=fun k=>q.length - k) 0
  (Weak.to [1,5,6] [] (by simp[padd])) (by omega) ?_
 rintro k h3 R hn hr hx;have e1:=i64s k;simp[g.uu,mkSt];refine⟨fun hk=>?_,fun hk=>hx _ _ ?_⟩
 ·refine zae hk ?_;have hv:=zcn (q.take k) hp;have hl:=zfz hv;refine zaa (ycd (padd p (q.take k)) q[k] (hb k) (by omega) (hbq _ (ym7 hk)) (GMono.ok_iff.1 (hq k hk).1).2.1) rfl ?_;simp[e1];exact hn (k+1) _ (Weak.to [1,5,6] [] (by simp[zn0 hk])) (by omega) (by omega)
 ·have:k=q.length:=by omega
  subst this;simp
def Ex.add(x y:Ex):Ex:=⟨x.a+y.a,x.b+y.b,x.c+y.c⟩
def prow(m:GMono)(q:List GMono)(o:List GMono):List GMono:=q.foldl (fun o m'=>pput o (m.e.add m'.e) (m.coef.v*m'.coef.v)) o
def pmul(p q:List GMono):List GMono:=p.foldl (fun o m=>prow m q o) []
end Go.Ab
