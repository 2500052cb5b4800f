/- Lemmas for the law AmbiguityCounts, part 20. No conditions. -/
import Derived.Test.YtcemegnnejaahaaGreatDoorDP19
set_option maxRecDepth 100000
set_option maxHeartbeats 4000000
set_option linter.all false
namespace Go.Ab
open Enc (enc)
def sgnR(q:Rat):Int:=if q.num=0 then 0 else if q.num<0 then -1 else 1
theorem zjx(x:GRat)(hx:x.sm 4194304):Sp P F.be [enc x] (.pure (.int .i64 (sgnR x.v))):=by refine Sp.vz c.be fun _=>?_;simp[g.be];refine zab (zxp x hx) rfl ?_;simp[Fr.e,frq,sgnR];refine⟨fun h=>by simp[h],fun h=>⟨fun h'=>by simp[h,h'],fun h'=>by simp[h];omega⟩⟩
theorem zyj{n d:Nat}:(lb (n / d)).length<=(lb n).length:=zod (yhv _ _)
theorem zkp{f:Fr}{n:Nat}(hd:f.d≠0)(h:f.e.sm n):(rto f.v).sm n:=by
 by_cases hn:f.n=0
 ·rw[zkd hn,zec];exact⟨by simp,by simp⟩
 ·rw[zwx hd hn];refine⟨yf7 zyj h.1,?_⟩;simp only;split
  ·simp
  ·exact yf7 zyj h.2
theorem zkt(x y:GRat)(hx:x.sm 1048576)(hy:y.sm 1048576):Sp P F.gr [enc x,enc y] (.pure (.int .i64 (sgnR (x.v - y.v)))):=by
 have h1:=zf2 hx (by omega);have h2:=zf2 hy (by omega);have h3:(fneg (frq y.v)).e.sm 1048576:=h2;have h4:(rto (x.v - y.v)).sm 4194304:=by have e:=zqh (f:=frq x.v) (g:=fneg (frq y.v)) (ze8 _) (ze8 y.v);rw[zoo,zy3,zoo,<- Rat.sub_eq_add_neg]at e;rw[<- e];exact zkp (zqi (ze8 _) (ze8 y.v)) ((zlr h1 h3).mono (by omega))
 refine Sp.vz c.gr fun _=>?_;simp[g.gr];refine zab (z5q x y hx hy) rfl ?_;simp;refine zab (zjx (rto (x.v - y.v)) h4) rfl ?_;simp[zhi]
theorem zsj(v:Int)(h1 : -9223372036854775808<=v)(h2:v<=9223372036854775807):Sp P F.jf [.int .i64 v] (.pure (.tup [.bool (decide (v<0)),.sl (ens (lb v.natAbs))])):=by
 refine Sp.vz c.jf fun _=>?_;simp[g.jf];obtain⟨z1,hz1⟩:∃ z:UInt32,z.toNat=v.natAbs % 4294967296:=⟨_,zav _⟩;obtain⟨z2,hz2⟩:∃ z:UInt32,z.toNat=v.natAbs / 4294967296 % 4294967296:=⟨_,zav _⟩;have hv:val [z1,z2]=v.natAbs:=by simp only[zbo,z43,hz1,hz2];omega
 refine⟨fun h=>?_,fun h=>?_⟩
 ·have e1:(-(v % 18446744073709551616)) % 4294967296=(z1.toNat:Int):=by omega
  have e2:(-(v % 18446744073709551616)) % 18446744073709551616 / 4294967296 % 4294967296=(z2.toNat:Int):=by omega
  simp only[e1,e2];refine zab (zc0 [z1,z2]) (zb5 (zdt rfl (by simp) (by simp)) zcw) ?_;rw[hv];simp[h]
 ·have e1:v % 4294967296=(z1.toNat:Int):=by omega
  have e2:v % 18446744073709551616 / 4294967296 % 4294967296=(z2.toNat:Int):=by omega
  simp only[e1,e2];refine zab (zc0 [z1,z2]) (zb5 (zdt rfl (by simp) (by simp)) zcw) ?_;rw[hv];simp
theorem zzr(a b:Int):(⟨decide (a<0) != decide (b<0),a.natAbs,b.natAbs⟩:Fr).v=Rat.divInt a b:=by
 simp only[Fr.v];rcases(by omega:b<0\/0<=b)with hb|hb
 ·have e:Rat.divInt a b=mkRat (-a) b.natAbs:=by rw[<- Rat.divInt_ofNat,<- Rat.neg_divInt_neg];congr 1;omega
  rw[e];congr 1;unfold sgn;by_cases ha:a<0<;>simp[ha,hb]<;>omega
 ·have e:Rat.divInt a b=mkRat a b.natAbs:=by rw[<- Rat.divInt_ofNat];congr 1;omega
  have hb':¬ b<0:=by omega
  rw[e];congr 1;unfold sgn;by_cases ha:a<0<;>simp[ha,hb']<;>omega
theorem zsz(a b:Int)(ha : -9223372036854775808<=a/\a<=9223372036854775807)(hb : -9223372036854775808<=b/\b<=9223372036854775807) :
  Sp P F.ba [.int .i64 a,.int .i64 b] (.pure (.tup [enc (if b=0 then rto 0 else rto (Rat.divInt a b)),.int .i64 (if b=0 then 11 else 0)])):=by
 have hal:=zau (n:=a.natAbs) (k:=2) (by omega);have hbl:=zau (n:=b.natAbs) (k:=2) (by omega);refine Sp.vz c.ba fun _=>?_;simp[g.ba];refine⟨fun h=>by simp[h,zec],fun h=>?_⟩;refine zab (zsj a ha.1 ha.2) rfl ?_;simp;refine zab (zsj b hb.1 hb.2) rfl ?_;simp;refine zab (zry ⟨decide (a<0) != decide (b<0),a.natAbs,b.natAbs⟩ (by simpa using h) ⟨by simp only[Fr.e];omega,by simp only[Fr.e];omega⟩) ?_ ?_
 ·simp[Fr.e,bne]
 ·simp[zzr,h]
@[simp] theorem yd1(x:UInt32):IntKind.i64.wrap (x.toNat:Int)=x.toNat:=by have:=x.toNat_lt;exact i64w (by omega) (by omega)
theorem znl(a:List UInt32):Sp P F.bk [.sl (ens a)] (.pure (.sl (ens (lb (val a))))):=by
 refine Sp.vz c.bk fun hs=>?_;have hl:=zk0 hs.1;simp[g.bk];refine zaj (S:=fun l:List UInt32=>mkSt [(0,.p (.sl (ens l)))] []) (I:=fun l=>val l=val a/\l.length<=9223372036854775807) (m:=fun l=>l.length) a (Weak.of (keep:=[0]) (ids:=[]) rfl) ⟨rfl,hl⟩ ?_;rintro l ⟨h1,h2⟩ R hn hr hx;have e:IntKind.i64.wrap (↑l.length - 1) = ↑l.length - 1:=i64w (by omega) (by omega);have e2:((l.length:Int) - 1).toNat=l.length - 1:=by omega
 simp[g.ph,mkSt,e,e2];have out:zbi l->R (Exit.exit 0) ⟨[(0,.p (.sl (ens l)))],[(DEAD,[none])]⟩:=fun hc=>by refine hx _ _ ?_;simp;rw[<- h1,zca hc]
 refine⟨fun h=>zad (by omega) ⟨by omega,fun h0=>⟨by omega,hn (l.take (l.length - 1)) _ (Weak.of (keep:=[0]) (ids:=[]) rfl) ?_ ?_⟩,fun h0=>out ?_⟩,fun h=>out ?_⟩
 ·refine⟨?_,by simp;omega⟩;have h3:l=l.take (l.length - 1)++[0]:=by
   conv=>lhs;rw[<- List.take_append_getLast l (by intro h4;simp[h4]at h)]
   rw[List.getLast_eq_getElem,zhc (x:=l[l.length - 1]) (y:=0) (by simpa using h0)]
  rw[h3,zd0]at h1;simpa using h1
 ·simp;omega
 ·intro h4;rw[List.getLast?_eq_getElem?,yfm (by omega)]at h4;simp at h4;rw[h4]at h0;exact h0 rfl
 ·subst h;simp[zbi]
theorem zoc(a:List UInt32)(i:Int)(h:0<=i):Sp P F.fq [.sl (ens a),.int .i64 i] (.pure (.int .u64 (a.getD i.toNat 0).toNat)):=by
 refine Sp.vz c.fq fun _=>?_;simp[g.fq];refine⟨fun h1=>?_,fun h1=>zad (by omega) ⟨h,?_⟩⟩
 ·have:a.length<=i.toNat:=by omega
  simp[this]
 ·have:i.toNat<a.length:=by omega
  simp[*]
def sgnI(v:Int):Int:=if v<0 then -1 else if 0<v then 1 else 0
theorem zws(v:Int):Sp P F.ft [.int .i64 v] (.pure (.int .i64 (sgnI v))):=by refine Sp.vz c.ft fun _=>?_;simp[g.ft,sgnI];refine⟨fun h=>by omega,fun h=>⟨fun h'=>by split<;>omega,fun h'=>by split<;>omega⟩⟩
theorem zin(a:List UInt32):Sp P F.eu [.sl (ens a)] (.pure (.bool (decide (a=[1])))):=by
 refine Sp.vz c.eu fun _=>?_;simp[g.eu];refine⟨fun h=>?_,fun h=>?_⟩
 ·obtain⟨d,rfl⟩:∃ d,a=[d]:=List.length_eq_one_iff.1 (by omega);refine zad (by simp) ?_;simp;by_cases hd:d=1
  ·subst hd;simp
  ·have:d.toNat≠1:=fun h=>hd (zhc (by simpa using h));simp[hd];omega
 ·intro h';subst h';simp at h
theorem zp4{a b:List UInt32}(ha:zbi a)(hb:zbi b)(h:a.length<b.length):val a<val b:=by
 have h1:=zb3 a;have hb0:val b≠0:=fun h0=>by rw[(zl0 hb).1 h0]at h;simp at h
 have h2:=zld hb0;rw[zca hb]at h2;exact yfo h1 (yf7 (yg6 (by omega) (by omega)) h2)
theorem zi0(a b:List UInt32)(hl:a.length<=1073741824)(hl2:b.length<=1073741824)(ha:zbi a)(hb:zbi b):Sp P F.fb [.sl (ens a),.sl (ens b)] (.pure (.int .i64 (cmpN (val a) (val b)))):=by
 refine Sp.vz c.fb fun _=>?_;have e0:IntKind.i64.wrap ((a.length:Int) - b.length)=(a.length:Int) - b.length:=i64w (by omega) (by omega);have e1:IntKind.i64.wrap ((a.length:Int) - 1)=(a.length:Int) - 1:=i64w (by omega) (by omega);simp[g.fb,e0,e1];refine⟨fun hlen=>?_,fun hlen=>?_⟩
 ·have hlen:a.length=b.length:=by omega
  refine zaj (S:=fun k:Nat=>mkSt [(0,.p (.sl (ens a))),(1,.p (.sl (ens b))),(5,.p (.int .i64 ((k:Int) - 1)))] []) (I:=fun k=>k<=a.length/\val a / 4294967296^k=val b / 4294967296^k) (m:=fun k=>k) a.length (Weak.of (keep:=[0,1,5]) (ids:=[]) rfl) ⟨yf8 _,by rw[zfh _ (by omega),zfh _ (by omega)]⟩ ?_;rintro k ⟨h1,h2⟩ R hn hr hx;have e2:((k:Int) - 1).toNat=k - 1:=by omega
  have e3:IntKind.i64.wrap ((k:Int) - 1 - 1)=((k - 1:Nat):Int) - 1\/k=0:=by
   rcases yha k with h|h
   ·exact .inr h
   ·left;rw[i64w (by omega) (by omega)];omega
  simp[g.pm,mkSt,e2];refine⟨fun hk=>zad (by omega) ⟨by omega,zad (by omega) ?_⟩,fun hk=>?_⟩
  ·have e3:=e3.resolve_right (by omega);have d1:=zft a (k - 1);have d2:=zft b (k - 1);rw[show k - 1+1=k by omega]at d1 d2;have u1:=za0 a[k - 1];have u2:=za0 b[k - 1];simp[show k - 1<a.length by omega,show k - 1<b.length by omega]at d1 d2;refine⟨by omega,fun heq=>?_,fun hne=>zad (by omega) ⟨by omega,zad (by omega) ⟨by omega,?_⟩⟩⟩
   ·rw[e3];exact hn (k - 1) _ (Weak.of (keep:=[0,1,5]) (ids:=[]) rfl) ⟨by omega,by omega⟩ (by omega)
   ·have hw:IntKind.i64.wrap ((a[k - 1].toNat:Int) - b[k - 1].toNat)=(a[k - 1].toNat:Int) - b[k - 1].toNat:=i64w (by omega) (by omega);rw[hw];refine zah (zws _) rfl ?_;simp;refine hr _ ?_;simp[sgnI];have hlt:val a / 4294967296^(k - 1)<val b / 4294967296^(k - 1)\/val b / 4294967296^(k - 1)<val a / 4294967296^(k - 1):=by omega
    rcases hlt with h|h
    ·have:=zic h;simp only[cmpN];(repeat' split)<;>omega
    ·have:=zic h;simp only[cmpN];(repeat' split)<;>omega
  ·refine hx _ _ ?_;have:k=0:=by omega
   subst this;simp at h2;simp[cmpN,h2]
 ·refine zab (zws _) rfl ?_;simp[sgnI];rcases yg1 a.length b.length with h|h
  ·have:=zp4 ha hb h;rw[yf1 (by omega),cmpN,yf1 this]
  ·have:=zp4 hb ha (by omega);rw[yf0 (by omega),yf1 (by omega),cmpN,yf0 (by omega),yf0 (by omega)]
theorem zvs{v va vb s M:Nat}(h4:v+4294967296^(M+1)*s=va+vb)(h1:va<4294967296^M)(h2:vb<4294967296^M):s=0:=by
 rw[yfn]at h4;generalize 4294967296^M=p at *
 rcases yha s with h|h
 ·exact h
 ·have:=yiw (p*4294967296) h;omega
theorem zz5(l:List UInt32)(i:Nat):val l / 2^i % 2=(l.getD (i / 32) 0).toNat / 2^(i % 32) % 2:=by
 have h1:val l / 2^i=val l / 4294967296^(i / 32) / 2^(i % 32):=by rw[zcr i,yhb]
 rw[h1,zfg];generalize val l / 4294967296^(i / 32)=x;have hs:i % 32<32:=ygq _ (by omega);generalize i % 32=s at *
 have h:2^s*2^(32 - s)=4294967296:=by rw[<- Nat.pow_add,show s+(32 - s)=32 by omega]
 have h2:2^(32 - s)=2*2^(31 - s):=by rw[show 32 - s=31 - s+1 by omega,yfn];omega
 have e:=yj4 x 4294967296;have e2:x=x % 4294967296+2^s*(2*(2^(31 - s)*(x / 4294967296))):=by rw[<- Nat.mul_assoc 2,<- h2,<- Nat.mul_assoc,h];omega
 conv=>lhs;rw[e2,yjk _ _ (ygs (by omega)),yk2]
theorem zyu(x i:Nat):x / 2^i=2*(x / 2^(i+1))+x / 2^i % 2:=by rw[yfn,<- Nat.div_div_eq_div_mul];omega
theorem z9v{l:List UInt32}{i Q:Nat}(h:val l=2^(i+1)*Q)(hi:i / 32<l.length) :
  (l.getD (i / 32) 0).toNat ||| 2^(i % 32)<4294967296/\∀ z:UInt32,z.toNat=(l.getD (i / 32) 0).toNat ||| 2^(i % 32)->val (l.set (i / 32) z)=2^i*(2*Q+1):=by
 have hs:i % 32<32:=ygq _ (by omega);have hd:(l.getD (i / 32) 0).toNat=2^(i % 32+1)*(Q % 2^(31 - i % 32)):=by
  rw[zfg,h,yfn,zcr i];have e:4294967296^(i / 32)*2^(i % 32)*2*Q=4294967296^(i / 32)*(2^(i % 32)*2*Q):=by simp only[yfv]
  rw[e,Nat.mul_div_cancel_left _ (ygs (by omega)),<- Nat.pow_succ];have e2:(4294967296:Nat)=2^(i % 32+1)*2^(31 - i % 32):=by rw[<- Nat.pow_add,show i % 32+1+(31 - i % 32)=32 by omega]
  rw[e2,Nat.mul_mod_mul_left]
 have ho:(l.getD (i / 32) 0).toNat ||| 2^(i % 32)=(l.getD (i / 32) 0).toNat+2^(i % 32):=by rw[hd,yfy,zxk (yk8 (by omega) (by omega))]
 have hlt:=yjz (n:=32) (za0 (l.getD (i / 32) 0)) (yk8 (a:=2) (by omega) hs);refine⟨hlt,fun z hz=>?_⟩;have v:=zni l (i / 32) z hi;rw[hz,ho,yg5]at v;have e3:4294967296^(i / 32)*2^(i % 32)=2^i:=(zcr i).symm;have e4:2^i*(2*Q+1)=2^(i+1)*Q+2^i:=by rw[yg5,yfn,yfv];omega
 rw[e4,<- h,<- e3];omega
theorem zxa{v p sum A C x y d r:Nat}(h4:v+p*sum=A+C)(e4:x+y+sum=4294967296*d+r):v+p*r+p*4294967296*d=A+p*x+(C+p*y):=by
 have e5:p*(x+y+sum)=p*(4294967296*d+r):=by rw[e4]
 simp only[yg5,yfv]at *
 omega
theorem zn0(a b:List UInt32)(hl:a.length<=1073741824)(hl2:b.length<=1073741824):Sp P F.fa [.sl (ens a),.sl (ens b)] (.pure (.sl (ens (lb (val a+val b))))):=by
 refine Sp.vz c.fa fun _=>?_;simp[g.fa];obtain⟨M,hM⟩:∃ M,M=max a.length b.length:=⟨_,rfl⟩
 refine zaj (S:=fun x:Nat × Nat × List UInt32=>mkSt [(0,.p (.sl (ens a))),(1,.p (.sl (ens b))),(5,.own 1 0 0 x.1),(6,.p (.int .u64 x.2.1)),(7,.p (.int .i64 x.1))] [(1,⟨1,avs x.2.2⟩)])
  (I:=fun x=>x.2.2.length=x.1/\x.1<=M+1/\x.2.1<=1/\val x.2.2+4294967296^x.1*x.2.1=val (a.take x.1)+val (b.take x.1)) (m:=fun x=>M+1 - x.1) (0,0,[]) (Weak.nl 5 1 1 rfl (Weak.to [0,1,5,6,7] [((1,0),1)] (by simp))) ⟨rfl,by simp,by simp,by simp⟩ ?_
 rintro⟨i,sum,out⟩ ⟨h1,h2,h3,h4⟩ R hn hr hx;simp at h1 h2 h3 h4;simp[g.pk];refine⟨fun h=>?_,fun h=>?_⟩
 ·refine zab (zoc _ _ (by omega)) rfl ?_;simp;refine zab (zoc _ _ (by omega)) rfl ?_;simp;have hi:i<=M:=by split at h<;>omega
  have e1:=i64s i;have t1:=zb1 a i;have t2:=zb1 b i;have u1:=za0 (a.getD i 0);have u2:=za0 (b.getD i 0);simp only[yfj]at t1 t2 u1 u2;generalize (a[i]?.getD 0).toNat=x at t1 u1 ⊢;generalize (b[i]?.getD 0).toNat=y at t2 u2 ⊢;obtain⟨z,hz⟩:∃ z:UInt32,z.toNat=(x+y+sum) % 4294967296:=⟨_,zav _⟩;have e2:((x:Int)+y+sum) % 18446744073709551616 / 4294967296=(((x+y+sum) / 4294967296:Nat):Int):=by omega
  have e3:((x:Int)+y+sum) % 4294967296=(z.toNat:Int):=by rw[hz];omega
  rw[e1,e2,e3];refine⟨⟨by omega,by omega⟩,hn (i+1,(x+y+sum) / 4294967296,out++[z]) _ (Weak.to [0,1,5,6,7] [((31,0),1)] (by simp)) ⟨by simp[h1],by simp only;omega,by simp only;omega,?_⟩ (by simp only;omega)⟩;simp only;rw[zd0,hz,h1,t1,t2,yfn];have e4:x+y+sum=4294967296*((x+y+sum) / 4294967296)+(x+y+sum) % 4294967296:=by omega
  exact zxa h4 e4
 ·refine hx _ _ ?_;simp;have hi:i=M+1:=by split at h<;>omega
  subst hi;refine zab (znl out) (zb5 (zdt rfl rfl h1.symm) zcw) ?_;rw[zdf _ (by omega),zdf _ (by omega)]at h4;have v1:=yfo (zb3 a) (yg6 (n:=4294967296) (by omega) (show a.length<=M by omega));have v2:=yfo (zb3 b) (yg6 (n:=4294967296) (by omega) (show b.length<=M by omega));have hs0:sum=0:=zvs h4 v1 v2;subst hs0;simp;rw[Nat.mul_zero,ygl]at h4;rw[h4]
theorem zu7{v p less A C x y l r:Nat}(h4:v+C=A+p*less)(e4:x+4294967296*l=y+less+r):v+p*r+(C+p*y)=A+p*x+p*4294967296*l:=by
 have e5:p*(x+4294967296*l)=p*(y+less+r):=by rw[e4]
 simp only[yg5,yfv]at *
 omega
theorem zjp{l:List UInt32}{k:Nat}(h:val l<4294967296^k):l.getD k 0=0:=by apply zhc;rw[zfg,yhu h];rfl
theorem zh3(a b:List UInt32)(hl:a.length<=1073741824)(hab:val b<=val a):Sp P F.fc [.sl (ens a),.sl (ens b)] (.pure (.sl (ens (lb (val a - val b))))):=by
 refine Sp.vz c.fc fun _=>?_;simp[g.fc]
 refine zaj (S:=fun x:Nat × Nat × List UInt32=>mkSt [(0,.p (.sl (ens a))),(1,.p (.sl (ens b))),(5,.own 1 0 0 x.1),(6,.p (.int .u64 x.2.1)),(7,.p (.int .i64 x.1))] [(1,⟨1,avs x.2.2⟩)])
  (I:=fun x=>x.2.2.length=x.1/\x.1<=a.length/\x.2.1<=1/\val x.2.2+val (b.take x.1)=val (a.take x.1)+4294967296^x.1*x.2.1) (m:=fun x=>a.length - x.1) (0,0,[]) (Weak.nl 5 1 1 rfl (Weak.to [0,1,5,6,7] [((1,0),1)] (by simp))) ⟨rfl,by simp,by simp,by simp⟩ ?_
 rintro⟨i,less,out⟩ ⟨h1,h2,h3,h4⟩ R hn hr hx;simp only at h1 h2 h3 h4;simp[g.pn];refine⟨fun h=>?_,fun h=>?_⟩
 ·refine zab (zoc _ _ (by omega)) rfl ?_;simp;refine zab (zoc _ _ (by omega)) rfl ?_;simp;have e1:=i64s i;have t1:=zb1 a i;have t2:=zb1 b i;have u1:=za0 (a.getD i 0);have u2:=za0 (b.getD i 0);simp only[yfj]at t1 t2 u1 u2;generalize (a[i]?.getD 0).toNat=x at t1 u1 ⊢;generalize (b[i]?.getD 0).toNat=y at t2 u2 ⊢;obtain⟨z,hz⟩:∃ z:UInt32,z.toNat=(x+4294967296 - y - less) % 4294967296:=⟨_,zav _⟩;obtain⟨l',hl'⟩:∃ l':Nat,l'=if x<y+less then 1 else 0:=⟨_,rfl⟩
  have e2:(1 - ((x:Int)+4294967296 - y - less) % 18446744073709551616 / 4294967296) % 18446744073709551616=(l':Int):=by subst hl';split<;>omega
  have e3:((x:Int)+4294967296 - y - less) % 4294967296=(z.toNat:Int):=by rw[hz];omega
  rw[e1,e2,e3];refine⟨⟨by omega,by omega⟩,hn (i+1,l',out++[z]) _ (Weak.to [0,1,5,6,7] [((29,0),1)] (by simp)) ⟨by simp[h1],by simp only;omega,by simp only;subst hl';split<;>omega,?_⟩ (by simp only;omega)⟩;simp only;rw[zd0,hz,h1,t1,t2,yfn];have e4:x+4294967296*l'=y+less+(x+4294967296 - y - less) % 4294967296:=by subst hl';split<;>omega
  generalize 4294967296^i=p at *
  generalize (x+4294967296 - y - less) % 4294967296=r at *
  exact zu7 h4 e4
 ·refine hx _ _ ?_;simp;have hi:i=a.length:=by omega
  subst hi;refine zab (znl out) (zb5 (zdt rfl rfl h1.symm) zcw) ?_;rw[yfs,zg9 (yh2 hab (zb3 a))]at h4;have u1:=zb3 out;rw[h1]at u1;have hless:less=0:=by
   rcases yg1 0 less with h5|h5
   ·have:less=1:=by omega
    subst this;omega
   ·omega
  subst hless;rw[Nat.mul_zero,ygl]at h4;simp;rw[show val out=val a - val b by omega]
theorem zke(a b:List UInt32)(hl:a.length<=536870912)(hl2:b.length<=536870912):Sp P F.ji [.sl (ens a),.sl (ens b)] (.pure (.sl (ens (lb (val a*val b))))):=by
 refine Sp.vz c.ji fun _=>?_;have e0:IntKind.i64.wrap ((a.length:Int)+b.length)=((a.length+b.length:Nat):Int):=i64w (by omega) (by omega);simp[g.ji,e0];have e0':((a.length:Int)+b.length).toNat=a.length+b.length:=by omega
 simp only[e0']
 refine⟨by omega,zaj (S:=fun x:Nat × List UInt32=>mkSt [(0,.p (.sl (ens a))),(1,.p (.sl (ens b))),(5,.own 1 0 0 (a.length+b.length)),(6,.p (.int .i64 x.1))] [(1,⟨1,avs x.2⟩)])
  (I:=fun x=>x.2.length=a.length+b.length/\x.1<=a.length/\val x.2=val (a.take x.1)*val b) (m:=fun x=>a.length - x.1) (0,List.replicate (a.length+b.length) 0)
  (Weak.to [0,1,5,6] [((15,0),1)] (by simp)) ⟨by simp,by simp,by simp[zd1]⟩ ?_⟩
 rintro⟨i,out⟩ ⟨h1,h2,h3⟩ R hn hr hx;simp only at h1 h2 h3;simp[g.pj];refine⟨fun h=>?_,fun h=>?_⟩
 ·refine zaj (S:=fun x:Nat × Nat × List UInt32=>mkSt [(0,.p (.sl (ens a))),(1,.p (.sl (ens b))),(5,.own 1 0 0 (a.length+b.length)),(6,.p (.int .i64 i)),(7,.p (.int .u64 x.2.1)),(8,.p (.int .i64 x.1))] [(1,⟨1,avs x.2.2⟩)])
   (I:=fun x=>x.2.2.length=a.length+b.length/\x.1<=b.length/\x.2.1<4294967296/\x.2.2.getD (i+b.length) 0=0/\val x.2.2+4294967296^i*4294967296^x.1*x.2.1=val (a.take i)*val b+4294967296^i*(a.getD i 0).toNat*val (b.take x.1)) (m:=fun x=>b.length - x.1) (0,0,out)
   (Weak.to [0,1,5,6,7,8] [((1,0),1)] (by simp)) ⟨by simp[h1],by simp,by simp,?_,by simp[h3]⟩ ?_
  ·simp only;refine zjp ?_;rw[h3,yg9];have q1:val (a.take i)<4294967296^i:=yfo (zb3 _) (yg6 (by omega) (by simp;omega));exact yhc q1 (zb3 b)
  rintro⟨j,sum,o2⟩ ⟨k1,k2,k3,k5,k4⟩ R2 hn2 hr2 hx2;simp only at k1 k2 k3 k4 k5;simp[g.pi];have ei1:=i64s i;refine⟨fun g=>?_,fun g=>?_⟩
  ·have ew:IntKind.i64.wrap ((i:Int)+j)=((i+j:Nat):Int):=i64w (by omega) (by omega);have e1:=i64s j;rw[ew,e1,Int.toNat_natCast];refine zad (by omega) (zad (by omega) ⟨⟨by omega,by omega,by omega⟩,zad (by omega) ⟨⟨by omega,by omega,by omega⟩,zad (by omega) ?_⟩⟩);have t1:=zb1 b j;have u0:=za0 a[i];have u1:=za0 b[j];have u2:=za0 o2[i+j];have vs:∀ z,val (o2.set (i+j) z)+4294967296^(i+j)*o2[i+j].toNat=val o2+4294967296^(i+j)*z.toNat:=fun z=>by have:=zni o2 (i+j) z (by omega);simpa only[List.getD_eq_getElem?_getD,List.getElem?_eq_getElem (show i+j<o2.length by omega),Option.getD_some]using this
   have ga:(a.getD i 0)=a[i]:=by simp[yfm h]
   have gb:(b.getD j 0)=b[j]:=by simp[yfm g]
   rw[gb]at t1;rw[ga]at k4;generalize hx1:a[i].toNat=x at u0 k4 ⊢;generalize b[j].toNat=y at t1 u1 ⊢;generalize o2[i+j].toNat=o at u2 vs ⊢;have hxy:x*y<=4294967295*4294967295:=yfz (by omega) (by omega);obtain⟨z,hz⟩:∃ z:UInt32,z.toNat=(sum+(o+x*y)) % 4294967296:=⟨_,zav _⟩;have e2:((x:Int)*y+o+sum) % 18446744073709551616 / 4294967296=(((sum+(o+x*y)) / 4294967296:Nat):Int):=by
    have:((x:Int)*y)=((x*y:Nat):Int):=by simp
    rw[this];omega
   have e3:((x:Int)*y+o+sum) % 4294967296=(z.toNat:Int):=by
    have:((x:Int)*y)=((x*y:Nat):Int):=by simp
    rw[this,hz];omega
   rw[e2,e3];refine hn2 (j+1,(sum+(o+x*y)) / 4294967296,o2.set (i+j) z) _ (Weak.to [0,1,5,6,7,8] [((1,0),1)] (by simp)) ⟨by simp[k1],by simp only;omega,by simp only;omega,?_,?_⟩ (by simp only;omega)
   ·simp only;rw[yfj,List.getElem?_set_ne (by omega),<- List.getD_eq_getElem?_getD];exact k5
   ·simp only;have v:=vs z;rw[hz,yg9]at v;rw[t1,yfn,ga,hx1];have e4:=yj4 (sum+(o+x*y)) 4294967296;exact zmg v k4 e4
  ·refine hx2 _ _ ?_;have hj:j=b.length:=by omega
   subst hj;have ew:IntKind.i64.wrap ((i:Int)+b.length)=((i+b.length:Nat):Int):=i64w (by omega) (by omega);simp[ew,ei1];have ew2:((i:Int)+b.length).toNat=i+b.length:=by omega
   rw[ew2];obtain⟨z,hz⟩:∃ z:UInt32,z.toNat=sum:=⟨UInt32.ofNat sum,by rw[zav];omega⟩;have e3:(sum:Int) % 4294967296=(z.toNat:Int):=by rw[hz];omega
   rw[e3];refine⟨⟨by omega,by omega,by omega⟩,zad (by omega) ?_⟩;refine hn (i+1,o2.set (i+b.length) z) _ (Weak.to [0,1,5,6] [((1,0),1)] (by simp)) ⟨by simp[k1],by simp only;omega,?_⟩ (by simp only;omega);simp only;have v:=zni o2 (i+b.length) z (by omega);rw[k5,hz,yg9]at v;rw[yfs]at k4;rw[zb1,ygf];simp only[UInt32.toNat_zero,Nat.mul_zero,ygl]at v;rw[v,k4]
 ·refine hx _ _ ?_;simp;refine zab (znl out) (zb5 (zdt rfl rfl (by omega)) zcw) ?_;simp;have:i=a.length:=by omega
  subst this;rw[h3,yfs]
theorem zlv(a b:List UInt32)(hl:a.length<=4194304)(hl2:b.length<=4194304)(hb:val b≠0)(hcb:zbi b):Sp P F.eq [.sl (ens a),.sl (ens b)] (.pure (.tup [.sl (ens (lb (val a / val b))),.sl (ens (lb (val a % val b)))])):=by
 refine Sp.vz c.eq fun _=>?_;have e0:IntKind.i64.wrap (32*(a.length:Int))=32*(a.length:Int):=i64w (by omega) (by omega);have e1:IntKind.i64.wrap (32*(a.length:Int) - 1)=32*(a.length:Int) - 1:=i64w (by omega) (by omega);simp[g.eq,e0,e1]
 refine⟨by omega,zaj (S:=fun x:Nat × Nat × List UInt32=>mkSt [(0,.p (.sl (ens a))),(1,.p (.sl (ens b))),(6,.own 1 0 0 a.length),(7,.p (.sl (ens (lb x.2.1)))),(8,.p (.int .i64 ((x.1:Int) - 1)))] [(1,⟨1,avs x.2.2⟩)])
  (I:=fun x=>x.2.2.length=a.length/\x.1<=32*a.length/\x.2.1<val b/\∃ Q,val x.2.2=2^x.1*Q/\val a / 2^x.1=Q*val b+x.2.1) (m:=fun x=>x.1) (32*a.length,0,List.replicate a.length 0)
  ((Weak.freeze (t:=7) rfl).trans (Weak.to [0,1,6,7,8] [((11,0),1)] (by simp))) ⟨by simp,by simp,by simp;omega,0,by simp[zd1],?_⟩ ?_⟩
 ·simp only[yir,ygl];rw[Nat.pow_mul];exact yhu (zb3 a)
 rintro⟨k,R,q⟩ ⟨h1,h2,h3,Q,h4,h5⟩ X hn hr hx;simp only at h1 h2 h3 h4 h5;have hRl:=yf7 (zau (Nat.lt_trans h3 (zb3 b))) hl2;rcases k with _|i
 ·simp[g.og];refine hx _ _ ?_;simp;refine zab (znl q) (zb5 (zdt rfl (by simp) (by omega)) zcw) ?_;simp;simp only[Nat.pow_zero,Nat.one_mul,Nat.div_one]at h4 h5;have q1:val a / val b=val q:=by rw[h5,h4,yfy,Nat.mul_add_div (by omega),yhu h3];omega
  have q2:val a % val b=R:=by rw[h5,yfy,Nat.mul_add_mod,ygu h3]
  rw[q1,q2];exact⟨rfl,rfl⟩
 ·simp[g.og];refine zab (zn0 (lb R) (lb R) (by omega) (by omega)) rfl ?_;simp;have hw:IntKind.i64.wrap ((i:Int) / 32)=((i / 32:Nat):Int):=by rw[i64w (by omega) (by omega)];omega
  have hm:(i:Int).tmod 32=((i % 32:Nat):Int):=z0s i 32;have hm2:((i % 32:Nat):Int) % 18446744073709551616=((i % 32:Nat):Int):=by omega
  have hm3:((i % 32:Nat):Int).toNat.min 32=i % 32:=yhj (by rw[yh4];omega);rw[hw,hm,hm2,hm3,yh4];have hbd:=zz5 a i;have hhs:=zyu (val a) i;have hoq:=z9v h4 (by omega);have hil:i / 32<a.length:=by omega
  have ga:(a.getD (i / 32) 0)=a[i / 32]:=by simp[yfm hil]
  rw[ga]at hbd;refine zad hil ⟨by omega,by omega,?_⟩;have hxl:=za0 a[i / 32];generalize a[i / 32]=x at hbd hxl ⊢;have he:((x.toNat:Int) / 2^(i % 32))=((x.toNat / 2^(i % 32):Nat):Int):=by simp
  have hal:=z3x (x:=x.toNat / 2^(i % 32)) (y:=1) (yh2 (yhv _ _) hxl) (by omega);rw[Nat.and_one_is_mod,show((1:Nat):Int)=1 from rfl]at hal;rw[he,hal,<- hbd];have hk1:IntKind.i64.wrap ((i:Int) - 1)=(i:Int) - 1:=i64w (by omega) (by omega);have hbit:(val a / 2^i % 2=0)\/(val a / 2^i % 2=1):=by omega
  refine⟨fun hb1=>?_,fun hb0=>?_⟩
  ·refine zab (zn0 (lb (R+R)) [1] (by have:=zir (m:=R) (n:=R) hRl hRl;omega) (by simp)) (zb5 rfl (zb5 (zdt rfl (by simp) (by simp)) zcw)) ?_;obtain⟨R2,hR2⟩:∃ R2,R+R+1=R2:=⟨_,rfl⟩;have hB:val a / 2^i % 2=1:=by omega
   simp[hR2];have hR2l:(lb R2).length<=4194305:=by
    have:=zir hRl hRl;have:=zir (m:=R+R) (n:=1) (a:=4194305) (by omega) (by rw[zlc];simp)
    first|(rw[<- hR2];have h:=zau (n:=R+R+1) (k:=b.length+1) (by have:=zb3 b;rw[yfn];omega);omega)|(rw[<- hR2];omega)
   refine zab (zi0 (lb R2) b (by omega) (by omega) (zbp _) hcb) rfl ?_;simp[zfw];refine⟨fun hge=>?_,fun hlt=>?_⟩
   ·refine zab (zh3 (lb R2) b (by omega) (by simpa using hge)) rfl ?_;simp;rw[hw,hm,hm2,hm3,Int.toNat_natCast,hk1];have hiq:i / 32<q.length:=by omega
    have gq:(q.getD (i / 32) 0)=q[i / 32]:=by simp[yfm hiq]
    rw[gq]at hoq;obtain⟨z,hz⟩:∃ z:UInt32,z.toNat=q[i / 32].toNat ||| 2^(i % 32):=⟨UInt32.ofNat _,by rw[zav,ygu hoq.1]⟩;have h2p:=zgf (s:=i % 32) (ygq _ (by omega));have hpc:((2:Int)^(i % 32) % 4294967296)=((2^(i % 32):Nat):Int):=by
     have:((2:Int)^(i % 32))=((2^(i % 32):Nat):Int):=by simp
     rw[this];generalize 2^(i % 32)=p at h2p ⊢;omega
    have ho:=zxl (x:=q[i / 32].toNat) (y:=2^(i % 32)) (za0 _) (by omega);rw[hpc];refine⟨⟨by omega,by omega,by omega⟩,zad hiq ⟨by omega,⟨by omega,by omega,by omega⟩,zad hiq ?_⟩⟩;rw[ho,<- hz];refine hn (i,R2 - val b,q.set (i / 32) z) _ (Weak.to [0,1,6,7,8] [((1,0),1)] (by simp)) ⟨by simp[h1],by simp only;omega,by simp only;omega,2*Q+1,?_,?_⟩ (by simp)
    ·simp only;exact hoq.2 z hz
    ·simp only;rw[hhs,h5,hB,ygf,yfv,yg5];omega
   ·refine hn (i,R2,q) _ (Weak.to [0,1,6,7,8] [((1,0),1)] (by simp[hk1])) ⟨h1,by simp only;omega,hlt,2*Q,?_,?_⟩ (by simp)
    ·simp only;rw[h4,yfn,yfv]
    ·simp only;rw[hhs,h5,hB,<- hR2,yg5,yfv];omega
  ·obtain⟨R2,hR2⟩:∃ R2,R+R=R2:=⟨_,rfl⟩;have hB:val a / 2^i % 2=0:=by omega
   simp[hR2];have hR2l:(lb R2).length<=4194305:=by
    have:=zir hRl hRl;have:=zir (m:=R+R) (n:=1) (a:=4194305) (by omega) (by rw[zlc];simp)
    first|(rw[<- hR2];have h:=zau (n:=R+R+1) (k:=b.length+1) (by have:=zb3 b;rw[yfn];omega);omega)|(rw[<- hR2];omega)
   refine zab (zi0 (lb R2) b (by omega) (by omega) (zbp _) hcb) rfl ?_;simp[zfw];refine⟨fun hge=>?_,fun hlt=>?_⟩
   ·refine zab (zh3 (lb R2) b (by omega) (by simpa using hge)) rfl ?_;simp;rw[hw,hm,hm2,hm3,Int.toNat_natCast,hk1];have hiq:i / 32<q.length:=by omega
    have gq:(q.getD (i / 32) 0)=q[i / 32]:=by simp[yfm hiq]
    rw[gq]at hoq;obtain⟨z,hz⟩:∃ z:UInt32,z.toNat=q[i / 32].toNat ||| 2^(i % 32):=⟨UInt32.ofNat _,by rw[zav,ygu hoq.1]⟩;have h2p:=zgf (s:=i % 32) (ygq _ (by omega));have hpc:((2:Int)^(i % 32) % 4294967296)=((2^(i % 32):Nat):Int):=by
     have:((2:Int)^(i % 32))=((2^(i % 32):Nat):Int):=by simp
     rw[this];generalize 2^(i % 32)=p at h2p ⊢;omega
    have ho:=zxl (x:=q[i / 32].toNat) (y:=2^(i % 32)) (za0 _) (by omega);rw[hpc];refine⟨⟨by omega,by omega,by omega⟩,zad hiq ⟨by omega,⟨by omega,by omega,by omega⟩,zad hiq ?_⟩⟩;rw[ho,<- hz];refine hn (i,R2 - val b,q.set (i / 32) z) _ (Weak.to [0,1,6,7,8] [((1,0),1)] (by simp)) ⟨by simp[h1],by simp only;omega,by simp only;omega,2*Q+1,?_,?_⟩ (by simp)
    ·simp only;exact hoq.2 z hz
    ·simp only;rw[hhs,h5,hB,ygf,yfv,yg5];omega
   ·refine hn (i,R2,q) _ (Weak.to [0,1,6,7,8] [((1,0),1)] (by simp[hk1])) ⟨h1,by simp only;omega,hlt,2*Q,?_,?_⟩ (by simp)
    ·simp only;rw[h4,yfn,yfv]
    ·simp only;rw[hhs,h5,hB,<- hR2,yg5,yfv];omega
theorem znc(a b:List UInt32)(hl:a.length<=4194304)(hl2:b.length<=4194304)(ha:zbi a)(hb:zbi b):Sp P F.ep [.sl (ens a),.sl (ens b)] (.pure (.sl (ens (lb (Nat.gcd (val a) (val b)))))):=by
 refine Sp.vz c.ep fun _=>?_;simp[g.ep];refine zaj (S:=fun x:List UInt32 × List UInt32=>mkSt [(0,.p (.sl (ens x.1))),(1,.p (.sl (ens x.2)))] []) (I:=fun x=>x.1.length<=4194304/\x.2.length<=4194304/\zbi x.1/\zbi x.2/\Nat.gcd (val x.1) (val x.2)=Nat.gcd (val a) (val b)) (m:=fun x=>val x.2) (a,b) (Weak.of (keep:=[0,1]) (ids:=[]) rfl) ⟨hl,hl2,ha,hb,rfl⟩ ?_;rintro⟨x,y⟩ ⟨h1,h2,h3,h4,h5⟩ R hn hr hx;simp at h1 h2 h3 h4 h5;simp[g.pg];refine⟨fun h=>?_,fun h=>hx _ _ ?_⟩
 ·have hy:val y≠0:=fun h0=>by rw[<- zca h4,h0]at h;simp at h
  refine zab (zlv x y h1 h2 hy h4) rfl ?_;simp;have hlt:=Nat.mod_lt (val x) (Nat.pos_of_ne_zero hy);have hlen:=zau (Nat.lt_trans hlt (zb3 y));refine hn (y,lb (val x % val y)) _ (Weak.of (keep:=[0,1]) (ids:=[]) rfl) ⟨h2,by simp only;omega,h4,zbp _,?_⟩ (by simpa using hlt);simp only[zmd];rw[<- h5,Nat.gcd_comm (val x),Nat.gcd_rec (val y) (val x),Nat.gcd_comm]
 ·subst h;simp at h5;simp;rw[<- h5,zca h3]
theorem zug(x:GRat):Sp P F.jj [enc x] (.pure (.sl (ens (if x.den=[]then[(1:UInt32)]else x.den)))):=by refine Sp.vz c.jj fun _=>?_;simp[g.jj];refine⟨fun h=>by simp[h],fun h=>by simp[h]⟩
theorem zn3(f:Fr)(hd:f.d≠0)(hx:f.e.sm 4194304):Sp P F.ir [.bool f.neg,.sl (ens (lb f.n)),.sl (ens (lb f.d))] (.pure (enc (rto f.v))):=by
 obtain⟨h1,h2⟩:=hx;simp only[Fr.e]at h1 h2;refine Sp.vz c.ir fun _=>?_;simp[g.ir];refine⟨fun h=>?_,fun h=>?_⟩
 ·simp[zkd h,zec]
 ·have hg:=yk7 f.d (yjl h);refine zab (znc _ _ h1 h2 (zbp _) (zbp _)) rfl ?_;have hlg:(lb (Nat.gcd f.n f.d)).length<=4194304:=by refine yf7 (zau (n:=Nat.gcd f.n f.d) (k:=(lb f.n).length) ?_) h1;exact yh2 (Nat.gcd_le_left _ (yjl h)) (zhp _)
  rw[zwx hd h];simp;refine zab (zlv (lb f.n) (lb (Nat.gcd f.n f.d)) h1 hlg (by simp;omega) (zbp _)) rfl ?_;simp;refine zab (zlv (lb f.d) (lb (Nat.gcd f.n f.d)) h2 hlg (by simp;omega) (zbp _)) rfl ?_;simp;refine zab (zin _) rfl ?_;have h1':(lb (f.d / Nat.gcd f.n f.d)=[1]) ↔ f.d / Nat.gcd f.n f.d=1:=⟨fun h=>by have:=congrArg val h;simpa using this,fun h=>by rw[h,zlc]⟩;simp[h1'];refine⟨fun h6=>?_,fun h6=>?_⟩<;>simp[h6]
theorem zdo{a:List UInt32}(h:0<a.length):(a[a.length - 1].toNat=0) ↔ ¬ zbi a:=by simp only[zbi,List.getLast?_eq_getElem?,List.getElem?_eq_getElem (show a.length - 1<a.length by omega)];simp;exact⟨fun h=>zhc (by simpa using h),fun h=>by rw[h];rfl⟩
theorem zzt(l:List UInt32)(h:zbi l):l=[1] ↔ val l=1:=⟨fun h=>by rw[h];rfl,fun h0=>by rw[<- zca h,h0,zlc]⟩
theorem zv8(x:GRat)(hx:x.sm 4194304):Sp P F.bp [enc x] (.pure (.bool x.valid)):=by
 obtain⟨h1,h2⟩:=hx;have en:IntKind.i64.wrap ((x.num.length:Int) - 1)=(x.num.length:Int) - 1:=i64w (by omega) (by omega);have ed:IntKind.i64.wrap ((x.den.length:Int) - 1)=(x.den.length:Int) - 1:=i64w (by omega) (by omega);have en':((x.num.length:Int) - 1).toNat=x.num.length - 1:=by omega
 have ed':((x.den.length:Int) - 1).toNat=x.den.length - 1:=by omega
 refine Sp.vz c.bp fun _=>?_;by_cases hn:x.num=[]
 ·by_cases hd:x.den=[]
  ·simp[g.bp,hn,hd];refine zab (zin []) rfl ?_;simp;rw[zf5];refine⟨fun h=>?_,fun h=>?_⟩<;>simp[GRat.valid,hn,hd,h]
  ·have hdl:=yih.2 hd;simp[g.bp,hn,hdl,ed,ed'];refine zad (by omega) ⟨by omega,fun h3=>?_,fun h3=>?_⟩
   ·simp[GRat.valid,(zdo hdl).1 h3]
   ·have hc:zbi x.den:=by simpa using (mt (zdo hdl).2) h3
    refine zab (zin x.den) rfl ?_;simp;refine⟨fun h4=>by simp[GRat.valid,hn,hd],fun h4=>?_⟩;rw[zf5];refine⟨fun h=>?_,fun h=>?_⟩<;>simp[GRat.valid,hn,hd,h]
 ·have hnl:=yih.2 hn;by_cases hd:x.den=[]
  ·simp[g.bp,hnl,hd,en,en'];refine zad (by omega) ⟨by omega,fun h3=>?_,fun h3=>?_⟩
   ·simp[GRat.valid,(zdo hnl).1 h3]
   ·have hc:zbi x.num:=by simpa using (mt (zdo hnl).2) h3
    refine zab (zin []) rfl ?_;simp[hn];simp[GRat.valid,hn,hd,hc]
  ·have hdl:=yih.2 hd;simp[g.bp,hnl,hdl,en,en',ed,ed'];refine zad (by omega) ⟨by omega,fun h3=>?_,fun h3=>zad (by omega) ⟨by omega,fun h4=>?_,fun h4=>?_⟩⟩
   ·simp[GRat.valid,(zdo hnl).1 h3]
   ·simp[GRat.valid,(zdo hdl).1 h4]
   ·have hc:zbi x.num:=by simpa using (mt (zdo hnl).2) h3
    have hcd:zbi x.den:=by simpa using (mt (zdo hdl).2) h4
    refine zab (zin x.den) rfl ?_;simp[hn,hd];refine⟨fun h5=>?_,fun h5=>?_⟩
    ·simp[GRat.valid,hn,hd,(zzt _ hcd).1 h5]
    ·refine zab (znc x.num x.den h1 h2 hc hcd) rfl ?_;simp;refine zab (zin _) rfl ?_;have h1':(lb ((val x.num).gcd (val x.den))=[1]) ↔ (val x.num).gcd (val x.den)=1:=⟨fun h=>by have:=congrArg val h;simpa using this,fun h=>by rw[h,zlc]⟩;have h5':¬ val x.den=1:=fun h=>h5 ((zzt _ hcd).2 h);simp[GRat.valid,hn,hd,hc,hcd,h1',h5']
theorem zjv(x:GRat)(hx:x.sm 4194304):Sp P F.de [enc x] (.pure (enc (rto x.v))):=by
 refine Sp.vz c.de fun _=>?_;simp[g.de];refine zab (zv8 x hx) rfl ?_;simp;rw[zf5];refine⟨fun h=>?_,fun h=>?_⟩
 ·have:=hx.1;have:=hx.2;simp[znu h];omega
 ·simp[zkc h,zec]
theorem z03(x:GRat)(hx:x.sm 4194304):Sp P F.iu [enc x] (.pure (.int .i64 (sgnR x.v))):=by
 refine Sp.vz c.iu fun _=>?_;simp[g.iu];refine zab (zjv x hx) rfl ?_;have hz:x.v=0 ↔ x.v.num=0:=Rat.num_eq_zero.symm;have hnn:0<=x.v ↔ 0<=x.v.num:=Rat.num_nonneg.symm;simp[rto,sgnR];rw[hnn];simp only[hz];refine⟨fun h=>?_,fun h=>⟨fun h'=>?_,fun h'=>?_⟩⟩
 ·rw[yf0 (by omega),yf1 h]
 ·have h2:x.v.num≠0:=fun h=>by rw[h]at h';simp at h'
  rw[yf0 h2,yf0 (by omega)]
 ·intro h2;exact absurd h' h2
theorem z6i(x:GRat)(hx:x.sm 4194304):Sp P F.jh [enc x] (.pure (enc (rto (-x.v)))):=by
 refine Sp.vz c.jh fun _=>?_;simp[g.jh];refine zab (zjv x hx) rfl ?_;have hz:x.v=0 ↔ x.v.num=0:=Rat.num_eq_zero.symm;simp[rto];simp only[hz];refine⟨fun h'=>?_,fun h'=>by omega⟩;have h2:x.v.num≠0:=fun h=>by rw[h]at h';simp at h'
 by_cases h:x.v.num<0
 ·have:¬ 0<x.v.num:=by omega
  simp[h,this]
 ·have:0<x.v.num:=by omega
  simp[h,this]
theorem yaf(q:Rat):(frq q).e=⟨(rto q).neg,(rto q).num,if (rto q).den=[]then[1]else(rto q).den⟩:=by have:=zln (ze2 q);rw[zhi]at this;exact this
theorem z71(x y:GRat)(hx:x.sm 1048576)(hy:y.sm 1048576):Sp P F.iz [enc x,enc y] (.pure (enc (rto (x.v+y.v)))):=by
 have h1:=zf2 hx (by omega);have h2:=zf2 hy (by omega);have h3:=zlr h1 h2;have h4:(fadd (frq x.v) (frq y.v)).d≠0:=zqi (ze8 _) (ze8 _);have hv:=zqh (f:=frq x.v) (g:=frq y.v) (ze8 _) (ze8 _);rw[zoo,zoo]at hv;have ex:=yaf x.v;have ey:=yaf y.v;have m1:=zfo h1.1 h2.2;have m2:=zfo h2.1 h1.2;have m3:=zfo h1.2 h2.2;simp only[Fr.e,GRat.mk.injEq]at ex ey;obtain⟨ex1,ex2,ex3⟩:=ex;obtain⟨ey1,ey2,ey3⟩:=ey;obtain⟨a1,a2⟩:=h1;obtain⟨b1,b2⟩:=h2;simp only[Fr.e]at a1 a2 b1 b2;refine Sp.vz c.iz fun _=>?_;simp[g.iz];refine zah (zjv x (hx.mono (by omega))) rfl ?_;simp;refine zah (zjv y (hy.mono (by omega))) rfl ?_;simp;refine zah (zug (rto y.v)) rfl ?_;simp only[<- ex1,<- ex2,<- ey1,<- ey2,<- ey3];simp;refine zah (zke _ _ (by omega) (by omega)) rfl ?_;simp;refine zah (zug (rto x.v)) rfl ?_;simp only[<- ex3];simp;refine zah (zke _ _ (by omega) (by omega)) rfl ?_;simp;refine zah (zug (rto x.v)) rfl ?_;simp only[<- ex3];simp;refine zah (zug (rto y.v)) rfl ?_;simp only[<- ey3];simp;refine zah (zke _ _ (by omega) (by omega)) rfl ?_;simp;generalize frq x.v=u at *
 generalize frq y.v=w at *
 refine⟨fun h=>?_,fun h=>?_⟩
 ·refine zah (zn0 (lb (u.n*w.d)) (lb (w.n*u.d)) (by omega) (by omega)) rfl ?_;simp;refine zah (zn3 (fadd u w) h4 (h3.mono (by omega))) ?_ ?_
  ·simp[h,fadd]
  ·simp[hv]
 ·refine zab (zi0 (lb (u.n*w.d)) (lb (w.n*u.d)) (by omega) (by omega) (zbp _) (zbp _)) rfl ?_;simp[zfw];refine⟨fun h'=>?_,fun h'=>?_⟩
  ·refine zah (zh3 (lb (u.n*w.d)) (lb (w.n*u.d)) (by omega) (by simpa using h')) rfl ?_;simp;refine zah (zn3 (fadd u w) h4 (h3.mono (by omega))) ?_ ?_
   ·simp[h,h',fadd]
   ·simp[hv]
  ·have h'':¬ (w.n*u.d<=u.n*w.d):=Nat.not_le.2 h';refine zah (zh3 (lb (w.n*u.d)) (lb (u.n*w.d)) (by omega) (by simp;omega)) rfl ?_;simp;refine zah (zn3 (fadd u w) h4 (h3.mono (by omega))) ?_ ?_
   ·simp[h,h'',fadd]
   ·simp[hv]
theorem zux{x y:GRat}{n:Nat}(hx:x.sm n)(hy:y.sm n)(hn:1<=n):(rto (x.v+y.v)).sm (n+n+1):=by have e:=zqh (f:=frq x.v) (g:=frq y.v) (ze8 _) (ze8 _);rw[zoo,zoo]at e;rw[<- e];exact zkp (zqi (ze8 _) (ze8 _)) (zlr (zf2 hx hn) (zf2 hy hn))
theorem zmk{x:GRat}{n:Nat}(hx:x.sm n)(hn:1<=n):(rto (-x.v)).sm n:=by have e:=zy3 (frq x.v);rw[zoo]at e;rw[<- e];exact zkp (f:=fneg (frq x.v)) (ze8 x.v) (zf2 hx hn)
theorem z5h(x y:GRat)(hx:x.sm 1048576)(hy:y.sm 1048576):Sp P F.iy [enc x,enc y] (.pure (enc (rto (x.v - y.v)))):=by refine Sp.vz c.iy fun _=>?_;simp[g.iy];refine zah (z6i y (hy.mono (by omega))) rfl ?_;simp;refine zah (z71 x (rto (-y.v)) hx (zmk hy (by omega))) rfl ?_;simp[zhi,yjm]
theorem zr9(x y:GRat)(hx:x.sm 1048576)(hy:y.sm 1048576):Sp P F.ea [enc x,enc y] (.pure (.int .i64 (sgnR (x.v - y.v)))):=by have h:=zux hx (zmk hy (by omega)) (by omega);rw[zhi,<- Rat.sub_eq_add_neg]at h;refine Sp.vz c.ea fun _=>?_;simp[g.ea];refine zab (z5h x y hx hy) rfl ?_;simp;refine zab (z03 (rto (x.v - y.v)) (h.mono (by omega))) rfl ?_;simp[zhi]
deriving instance DecidableEq for GRat
theorem zbr{P:Program}{N:Nat}{Q:Exit->St->Prop}{b:GC}{ks:List Kt}{st:St}
  (h:∀ R:Exit->St->Prop,(∀ s,vL P N Q b ks s->R .normal s)->(∀ s,Q .ret s->R .ret s)->(∀ id s,zb6 P N Q (zaw id ks) id s->R (.exit id) s)->vm P N R [.code b] st):vL P N Q b ks st:=by
 obtain⟨ex,s,r1,r2⟩:=zcq (P:=P) (N:=N) _ (yf8 _) (h (fun ex s=>(ex=.normal->vL P N Q b ks s)/\(ex ≠ .normal->semX P N Q ks ex s)) (fun s h=>⟨fun _=>h,fun h=>absurd rfl h⟩)
  (fun s h=>⟨fun h=>(by cases h),fun _=>zc9 h⟩) (fun id s h=>⟨fun h=>(by cases h),fun _=>zj4 (by simp) h (.inr ⟨id,rfl⟩)⟩))
 by_cases he:ex=.normal
 ·subst he;obtain⟨ex,s2,q1,q2⟩:=r2.1 rfl;exact⟨ex,s2,.next _ _ _ _ r1 q1,q2⟩
 ·exact⟨ex,s,.out _ _ _ r1 he,r2.2 he⟩
structure Ex where
 a:Int
 b:Int
 c:Int
 deriving DecidableEq
instance:Enc Ex:=⟨fun x=>.agg [.int .i64 x.a,.int .i64 x.b,.int .i64 x.c],3,by decide,fun _=>rfl⟩
@[simp] theorem yfb(x:Ex):enc x=.agg [.int .i64 x.a,.int .i64 x.b,.int .i64 x.c]:=rfl
@[simp] theorem yby:Enc.sz Ex=3:=rfl
structure GMono where
 e:Ex
 coef:GRat
 deriving DecidableEq
instance:Enc GMono:=⟨fun x=>.agg [.int .i64 x.e.a,.int .i64 x.e.b,.int .i64 x.e.c,.bool x.coef.neg,.sl (ens x.coef.num),.sl (ens x.coef.den)],6,by decide,fun _=>rfl⟩
@[simp] theorem yb3(x:GMono):enc x=.agg [.int .i64 x.e.a,.int .i64 x.e.b,.int .i64 x.e.c,.bool x.coef.neg,.sl (ens x.coef.num),.sl (ens x.coef.den)]:=rfl
@[simp] theorem z8d:Enc.sz GMono=6:=rfl
def Ex.cmp(x y:Ex):Int:=if x.a<y.a then -1 else if y.a<x.a then 1 else if x.b<y.b then -1 else if y.b<x.b then 1 else if x.c<y.c then -1 else if y.c<x.c then 1 else 0
def Ex.ok(x:Ex):Bool:=decide (0<=x.a/\x.a<=5/\0<=x.b/\x.b<=5/\0<=x.c/\x.c<=5/\x.a+x.b+x.c<=5)
@[simp] theorem w0:IntKind.i64.wrap 0=0:=by decide
@[simp] theorem w1:IntKind.i64.wrap 1=1:=by decide
@[simp] theorem w2:IntKind.i64.wrap 2=2:=by decide
@[simp] theorem w3:IntKind.i64.wrap 3=3:=by decide
@[simp] theorem w4:IntKind.i64.wrap 4=4:=by decide
def GMono.ok(m:GMono):Bool:=m.e.ok&&m.coef.valid&&decide (m.coef.v≠0)
def PVal(p:List GMono):Prop:=∀ i,(h:i<p.length)->p[i].ok=true/\(0<i->p[i].e.cmp (p[i - 1]'(by omega)).e<0)
noncomputable instance (p:List GMono):Decidable (PVal p):=Classical.propDecidable _
noncomputable def pv(p:List GMono):List GMono:=if PVal p then p else[]
def psm(p:List GMono)(n:Nat):Prop:=∀ m∈p,m.coef.sm n
theorem zkl(q:Rat):sgnR q=0 ↔ q=0:=by have hz:q=0 ↔ q.num=0:=Rat.num_eq_zero.symm;unfold sgnR;rw[hz];(repeat' split)<;>omega
theorem psm.mono{p:List GMono}{m n:Nat}(h:psm p m)(k:m<=n):psm p n:=fun x hx=>(h x hx).mono k
theorem z38(p:List GMono):PVal (pv p):=by
 unfold pv;split
 ·assumption
 ·intro i h;simp at h
theorem z4a{p:List GMono}{n:Nat}(h:psm p n):psm (pv p) n:=by
 unfold pv;split
 ·exact h
 ·intro x hx;simp at hx
theorem z4b(p:List GMono):(pv p).length<=p.length:=by unfold pv;split<;>simp
theorem z9t{p:List GMono}(h:PVal p):pv p=p:=by simp[pv,h]
def pat:List GMono->Ex->Nat
 | [],_=>0
 | m::p,e=>if 0<m.e.cmp e then pat p e+1 else 0
def pput(p:List GMono)(e:Ex)(q:Rat):List GMono :=
 if e.ok=false\/q=0 then p else
 match p[pat p e]? with
 | none=>p++[⟨e,rto q⟩]
 | some m=>if m.e=e then(if q+m.coef.v=0 then p.take (pat p e)++p.drop (pat p e+1)else p.take (pat p e)++⟨e,rto (q+m.coef.v)⟩::p.drop (pat p e+1))else p.take (pat p e)++⟨e,rto q⟩::p.drop (pat p e)
attribute [local simp] zai Opd.slots
end Go.Ab
namespace Go.Ab
open Enc (enc)
def qb(D B:Nat)(q:Rat):Prop:=∃ a:Int,q=mkRat a D/\a.natAbs<=B
theorem z9n{D B B':Nat}{x y:Rat}(hx:qb D B x)(hy:qb D B' y)(hD:D≠0):qb D (B+B') (x+y):=by obtain⟨a,rfl,h1⟩:=hx;obtain⟨b,rfl,h2⟩:=hy;refine⟨a+b,?_,by omega⟩;rw[Rat.mkRat_add_mkRat _ _ hD hD,<- Int.add_mul,Rat.mkRat_mul_right hD]
theorem zs2{D B:Nat}{x:Rat}(k:Nat)(hk:k≠0)(hx:qb D B x):qb (D*k) (B*k) x:=by
 obtain⟨a,rfl,h1⟩:=hx;refine⟨a*k,?_,?_⟩
 ·rw[Rat.mkRat_mul_right hk]
 ·rw[Int.natAbs_mul];exact yfz h1 (by simp)
theorem ydi{D B n:Nat}{x:Rat}(h:qb D B x)(hD:D≠0)(h1:D<4294967296^n)(h2:B<4294967296^n):(rto x).sm n:=by
 obtain⟨a,rfl,h⟩:=h;have e1:(mkRat a D).num.natAbs<=B:=by rw[Rat.num_mkRat,yf0 hD];exact yf7 (Int.natAbs_ediv_le_natAbs _ _) h
 have e2:(mkRat a D).den<=D:=by rw[Rat.den_mkRat,yf0 hD];exact yhv _ _
 refine⟨zau (yh2 e1 h2),?_⟩;show(if (mkRat a D).den=1 then[]else lb (mkRat a D).den).length<=n;split
 ·simp
 ·exact zau (yh2 e2 h1)
def Ex.code(e:Ex):Int:=e.a*36+e.b*6+e.c
theorem Ex.ok_iff{e:Ex}:e.ok=true ↔ (0<=e.a/\e.a<=5/\0<=e.b/\e.b<=5/\0<=e.c/\e.c<=5/\e.a+e.b+e.c<=5):=by simp[Ex.ok]
theorem Ex.code_lt{e:Ex}(h:e.ok=true):0<=e.code/\e.code<216:=by rw[Ex.ok_iff]at h;unfold Ex.code;omega
theorem Ex.cmp_neg{x y:Ex}(hx:x.ok=true)(hy:y.ok=true):x.cmp y<0 ↔ x.code<y.code:=by rw[Ex.ok_iff]at hx hy;unfold Ex.cmp Ex.code;(repeat' split)<;>omega
theorem Ex.cmp_pos{x y:Ex}(hx:x.ok=true)(hy:y.ok=true):0<x.cmp y ↔ y.code<x.code:=by rw[Ex.ok_iff]at hx hy;unfold Ex.cmp Ex.code;(repeat' split)<;>omega
theorem Ex.code_inj{x y:Ex}(hx:x.ok=true)(hy:y.ok=true):x.code=y.code ↔ x=y:=by rw[Ex.ok_iff]at hx hy;unfold Ex.code;obtain⟨a,b,c⟩:=x;obtain⟨a',b',c'⟩:=y;simp only[Ex.mk.injEq]at *;omega
theorem zao{p:List GMono}:PVal p ↔ (∀ m∈p,m.ok=true)/\p.Pairwise (fun x y=>y.e.code<x.e.code):=by
 have ok_e:∀ {m:GMono},m.ok=true->m.e.ok=true:=fun h=>by simp[GMono.ok]at h;exact h.1.1
 constructor
 ·intro h;have h1:∀ m∈p,m.ok=true:=fun m hm=>by obtain⟨i,hi,rfl⟩:=List.getElem_of_mem hm;exact(h i hi).1
  refine⟨h1,List.pairwise_iff_getElem.2 fun i j hi hj hij=>?_⟩;obtain⟨d,rfl⟩:∃ d,j=i+1+d:=⟨j - i - 1,by omega⟩;clear hij
  induction d with
  | zero =>
   have:=(h (i+1) hj).2 (by omega);exact(Ex.cmp_neg (ok_e (h1 _ (yfi _))) (ok_e (h1 _ (yfi _)))).1 this
  | succ d ih =>
   have h2:=ih (by omega);have h3:=(h (i+1+(d+1)) hj).2 (by omega);have h4:=(Ex.cmp_neg (ok_e (h1 _ (yfi _))) (ok_e (h1 _ (yfi _)))).1 h3;exact Int.lt_trans h4 h2
 ·rintro⟨h1,h2⟩ i hi;refine⟨h1 _ (yfi hi),fun h0=>?_⟩;refine(Ex.cmp_neg (ok_e (h1 _ (yfi _))) (ok_e (h1 _ (yfi _)))).2 ?_;exact List.pairwise_iff_getElem.1 h2 (i - 1) i (by omega) hi (by omega)
def pc:List GMono->Ex->Rat
 | [],_=>0
 | m::p,e=>(if m.e=e then m.coef.v else 0)+pc p e
theorem zky(p q:List GMono)(e:Ex):pc (p++q) e=pc p e+pc q e:=by
 induction p with
 | nil=>simp[pc,yi6]
 | cons m p ih=>simp[pc,ih,yhd]
theorem zkx{p:List GMono}{e:Ex}(h:∀ m∈p,m.e≠e):pc p e=0:=by
 induction p with
 | nil=>rfl
 | cons m p ih=>simp only[pc,yf0 (h m (by simp)),yi6];exact ih fun x hx=>h x (by simp[hx])
theorem zhk{m:GMono}{p:List GMono}(h:PVal (m::p)):pc (m::p) m.e=m.coef.v:=by have:=zao.1 h;simp only[pc,yf2];rw[zkx,ygo];intro x hx he;have:=(ygg.1 this.2).1 x hx;rw[he]at this;omega
theorem PVal.tail{m:GMono}{p:List GMono}(h:PVal (m::p)):PVal p:=by have:=zao.1 h;exact zao.2 ⟨fun x hx=>this.1 x (by simp[hx]),(ygg.1 this.2).2⟩
theorem znx{p q:List GMono}(hp:PVal p)(hq:PVal q)(h:∀ e,pc p e=pc q e):p=q:=by
 have okm:∀ {m:GMono},m.ok=true->m.e.ok=true/\m.coef.valid=true/\m.coef.v≠0:=fun h=>by simp[GMono.ok]at h;exact⟨h.1.1,h.1.2,h.2⟩
 induction p generalizing q with
 | nil =>
  cases q with
  | nil=>rfl
  | cons m q =>
   have:=h m.e;rw[zhk hq]at this;exact absurd this.symm (okm ((zao.1 hq).1 m (by simp))).2.2
 | cons m p ih =>
  cases q with
  | nil =>
   have:=h m.e;rw[zhk hp]at this;exact absurd this (okm ((zao.1 hp).1 m (by simp))).2.2
  | cons m' q =>
   have o1:=okm ((zao.1 hp).1 m (by simp));have o2:=okm ((zao.1 hq).1 m' (by simp));have he:m.e=m'.e:=by
    rcases Int.lt_trichotomy m.e.code m'.e.code with h1|h1|h1
    ·have:=h m'.e;rw[zhk hq,zkx]at this
     ·exact absurd this.symm o2.2.2
     ·intro x hx hxe;rcases yf4.1 hx with rfl|hx
      ·rw[hxe]at h1;omega
      ·have:=(ygg.1 (zao.1 hp).2).1 x hx;rw[hxe]at this;omega
    ·exact(Ex.code_inj o1.1 o2.1).1 h1
    ·have:=h m.e;rw[zhk hp,zkx]at this
     ·exact absurd this o1.2.2
     ·intro x hx hxe;rcases yf4.1 hx with rfl|hx
      ·rw[hxe]at h1;omega
      ·have:=(ygg.1 (zao.1 hq).2).1 x hx;rw[hxe]at this;omega
   have hc:m.coef=m'.coef:=by have:=h m.e;rw[zhk hp,he,zhk hq]at this;rw[<- znu o1.2.1,<- znu o2.2.1,this]
   have hm:m=m':=by cases m;cases m';simp at he hc;simp[he,hc]
   subst hm
   congr 1
   refine ih hp.tail hq.tail fun e=>?_;have:=h e;simp only[pc]at this;exact Rat.add_left_cancel _ this
def pins:List GMono->Ex->Rat->List GMono
 | [],e,q=>[⟨e,rto q⟩]
 | m::p,e,q=>if 0<m.e.cmp e then m::pins p e q else if m.e=e then(if q+m.coef.v=0 then p else⟨e,rto (q+m.coef.v)⟩::p)else⟨e,rto q⟩::m::p
theorem zku(p:List GMono)(e:Ex)(q:Rat):pput p e q=if e.ok=false\/q=0 then p else pins p e q:=by
 unfold pput;split
 ·rfl
 ·rename_i h
  induction p with
  | nil=>simp[pat,pins]
  | cons m p ih =>
   by_cases h1:0<m.e.cmp e
   ·simp only[pat,yf1 h1,List.getElem?_cons_succ,yjc,yjd,pins,<- ih];cases p[pat p e]? with
    | none=>simp
    | some x=>simp only[yi2];(repeat' split)<;>rfl
   ·simp[pat,pins,h1]
theorem GMono.ok_iff{m:GMono}:m.ok=true ↔ m.e.ok=true/\m.coef.valid=true/\m.coef.v≠0:=by simp[GMono.ok,and_assoc]
theorem z1q{p:List GMono}{e:Ex}{q:Rat}{x:GMono}(h:x∈pins p e q):x.e=e\/x∈p:=by
 induction p with
 | nil=>simp[pins]at h;exact .inl (by rw[h])
 | cons m p ih =>
  simp only[pins]at h;split at h
  ·rcases yf4.1 h with rfl|h
   ·exact .inr (by simp)
   ·rcases ih h with h|h
    ·exact .inl h
    ·exact .inr (by simp[h])
  ·split at h
   ·split at h
    ·exact .inr (by simp[h])
    ·rcases yf4.1 h with rfl|h
     ·exact .inl rfl
     ·exact .inr (by simp[h])
   ·rcases yf4.1 h with rfl|h
    ·exact .inl rfl
    ·exact .inr h
theorem z1p{p:List GMono}{e:Ex}{q:Rat}(hp:PVal p)(he:e.ok=true)(hq:q≠0):PVal (pins p e q):=by
 have okq:∀ {r:Rat},r≠0->(⟨e,rto r⟩:GMono).ok=true:=fun {r} h=>GMono.ok_iff.2 ⟨he,ze2 r,by rw[zhi];exact h⟩
 induction p with
 | nil=>exact zao.2 ⟨fun m hm=>by simp[pins]at hm;rw[hm];exact okq hq,by simp[pins]⟩
 | cons m p ih =>
  have h:=zao.1 hp;have ho:=(GMono.ok_iff.1 (h.1 m (by simp))).1;have h1:=(ygg.1 h.2).1;simp only[pins];split
  ·rename_i h2;have h3:=zao.1 (ih hp.tail);refine zao.2 ⟨fun x hx=>?_,ygg.2 ⟨fun x hx=>?_,h3.2⟩⟩
   ·rcases yf4.1 hx with rfl|hx
    ·exact h.1 x (by simp)
    ·exact h3.1 x hx
   ·rcases z1q hx with h4|h4
    ·rw[h4];exact(Ex.cmp_pos ho he).1 h2
    ·exact h1 x h4
  ·rename_i h2;split
   ·rename_i h3;split
    ·exact hp.tail
    ·rename_i h4;refine zao.2 ⟨fun x hx=>?_,ygg.2 ⟨fun x hx=>?_,(zao.1 hp.tail).2⟩⟩
     ·rcases yf4.1 hx with rfl|hx
      ·exact okq h4
      ·exact h.1 x (by simp[hx])
     ·have:=h1 x hx;rw[h3]at this;exact this
   ·rename_i h3;have h4:m.e.code<e.code:=by have h5:¬ (e.code<m.e.code):=fun h=>h2 ((Ex.cmp_pos ho he).2 h);have h6:¬ (m.e.code=e.code):=fun h=>h3 ((Ex.code_inj ho he).1 h);omega
    refine zao.2 ⟨fun x hx=>?_,ygg.2 ⟨fun x hx=>?_,h.2⟩⟩
    ·rcases yf4.1 hx with rfl|hx
     ·exact okq hq
     ·exact h.1 x hx
    ·rcases yf4.1 hx with rfl|hx
     ·exact h4
     ·exact Int.lt_trans (h1 x hx) h4
theorem z57(p:List GMono)(e:Ex)(q:Rat)(e':Ex):pc (pins p e q) e'=pc p e'+if e=e' then q else 0:=by
 induction p with
 | nil=>simp only[pins,pc,zhi,ygo,yi6]
 | cons m p ih =>
  simp only[pins];split
  ·simp only[pc,ih,yhd]
  ·split
   ·rename_i h;split
    ·rename_i h2;simp only[pc,h];by_cases h3:e=e'
     ·simp only[yf1 h3];rw[yhw (m.coef.v) (pc p e'),yhd,yhw m.coef.v q,h2,ygo]
     ·simp[h3,yi6,ygo]
    ·simp only[pc,h,zhi];by_cases h3:e=e'
     ·simp only[yf1 h3];rw[yhw q m.coef.v,yhd,yhd,yhw q (pc p e')]
     ·simp[h3,yi6,ygo]
   ·simp only[pc,zhi];rw[yhw]
theorem z1l{p:List GMono}(e:Ex)(q:Rat)(hp:PVal p):PVal (pput p e q):=by
 rw[zku];split
 ·exact hp
 ·rename_i h;exact z1p hp (by rcases yge e.ok with h'|h';exact h';exact absurd (.inl h') h) (fun h'=>h (.inr h'))
theorem z56(p:List GMono)(e:Ex)(q:Rat)(e':Ex):pc (pput p e q) e'=pc p e'+if e.ok=true/\e=e' then q else 0:=by
 rw[zku];split
 ·rename_i h;rcases h with h|h
  ·simp[h,ygo]
  ·simp[h,ygo]
 ·rename_i h;have:e.ok=true:=by rcases yge e.ok with h'|h';exact h';exact absurd (.inl h') h
  rw[z57];simp[this]
theorem zs3{p:List GMono}(h:PVal p):p.length<=216:=by
 have h1:=zao.1 h;have:∀ (p:List GMono) (n:Int),(∀ m∈p,0<=m.e.code/\m.e.code<n)->p.Pairwise (fun x y=>y.e.code<x.e.code)->(p.length:Int)<=n\/p=[]:=by
  intro p
  induction p with
  | nil=>intro n _ _;exact .inr rfl
  | cons m p ih =>
   intro n h2 h3;have h4:=ygg.1 h3;rcases ih m.e.code (fun x hx=>⟨(h2 x (by simp[hx])).1,h4.1 x hx⟩) h4.2 with h5|h5
   ·have:=h2 m (by simp);left;simp;omega
   ·have:=h2 m (by simp);left;subst h5;simp;omega
 rcases this p 216 (fun m hm=>Ex.code_lt (GMono.ok_iff.1 (h1.1 m hm)).1) h1.2 with h2|h2
 ·omega
 ·simp[h2]
end Go.Ab
namespace Go.Ab
open Enc (enc)
attribute [local simp] zai Opd.slots
theorem z4d{p:List GMono}(hp:PVal p){m:GMono}(hm:m∈p):pc p m.e=m.coef.v:=by
 induction p with
 | nil=>simp at hm
 | cons x p ih =>
  rcases yf4.1 hm with rfl|hm
  ·exact zhk hp
  ·have h1:=(ygg.1 (zao.1 hp).2).1 m hm;have h2:x.e≠m.e:=fun h=>by rw[h]at h1;omega
   simp only[pc,yf0 h2,yi6];exact ih hp.tail hm
def pqb(D B:Nat)(p:List GMono):Prop:=∀ e,qb D B (pc p e)
theorem zrm:PVal []:=fun i h=>by simp at h
def padd(p q:List GMono):List GMono:=q.foldl (fun o m=>pput o m.e m.coef.v) p
theorem zdb{p:List GMono}(q:List GMono)(hp:PVal p):PVal (padd p q):=by
 induction q generalizing p with
 | nil=>exact hp
 | cons m q ih=>exact ih (z1l _ _ hp)
theorem zgh(p:List GMono){q:List GMono}(hq:∀ m∈q,m.ok=true)(e:Ex):pc (padd p q) e=pc p e+pc q e:=by
 induction q generalizing p with
 | nil=>simp[padd,pc,ygo]
 | cons m q ih =>
  have:=ih (pput p m.e m.coef.v) fun x hx=>hq x (by simp[hx]);show pc (padd (pput p m.e m.coef.v) q) e=_;rw[this,z56];have:=(GMono.ok_iff.1 (hq m (by simp))).1;simp[pc,this,yhd]
theorem PVal.take{p:List GMono}(hp:PVal p)(k:Nat):PVal (p.take k):=by have:=zao.1 hp;exact zao.2 ⟨fun x hx=>this.1 x (ygb hx),this.2.sublist (List.take_sublist _ _)⟩
def Ex.add(x y:Ex):Ex:=⟨x.a+y.a,x.b+y.b,x.c+y.c⟩
def prow(m:GMono)(q:List GMono)(o:List GMono):List GMono:=q.foldl (fun o m'=>pput o (m.e.add m'.e) (m.coef.v*m'.coef.v)) o
def pmul(p q:List GMono):List GMono:=p.foldl (fun o m=>prow m q o) []
inductive GW where
 | mk (q:GRat) (cost:Int) (inf:Bool) (set:UInt64) (poly:List GMono) (parts:List GW)
namespace GW
def q:GW->GRat|mk q _ _ _ _ _=>q
def cost:GW->Int|mk _ c _ _ _ _=>c
def inf:GW->Bool|mk _ _ i _ _ _=>i
def set:GW->UInt64|mk _ _ _ s _ _=>s
def poly:GW->List GMono|mk _ _ _ _ p _=>p
def parts:GW->List GW|mk _ _ _ _ _ ps=>ps
mutual
def en:GW->PV
 | mk q c i s p ps=>.agg [.bool q.neg,.sl (ens q.num),.sl (ens q.den),.int .i64 c,.bool i,.int .u64 s.toNat,.sl (ens p),.sl (ensW ps)]
def ensW:List GW->List PV
 | []=>[]
 | w::ps=>en w::ensW ps
end
end GW
instance:Enc GW:=⟨GW.en,8,by decide,fun w=>by cases w;rfl⟩
theorem z7b(ps:List GW):GW.ensW ps=ens ps:=by
 induction ps with
 | nil=>simp[-zat,GW.ensW,ens]
 | cons w ps ih=>simp[-zat,GW.ensW,ens,ih];rfl
@[simp] theorem yd8(w:GW):enc w=.agg [.bool w.q.neg,.sl (ens w.q.num),.sl (ens w.q.den),.int .i64 w.cost,.bool w.inf,.int .u64 w.set.toNat,.sl (ens w.poly),.sl (ens w.parts)]:=by cases w;show GW.en _=_;simp[GW.en,z7b];simp[GW.q,GW.cost,GW.inf,GW.set,GW.poly,GW.parts]
@[simp] theorem yd7:Enc.sz GW=8:=rfl
theorem GW.ext{v w:GW}(h1:v.q=w.q)(h2:v.cost=w.cost)(h3:v.inf=w.inf)(h4:v.set=w.set)(h5:v.poly=w.poly)(h6:v.parts=w.parts):v=w:=by cases v;cases w;simp[GW.q,GW.cost,GW.inf,GW.set,GW.poly,GW.parts]at *;simp[*]
noncomputable instance:DecidableEq GW:=fun _ _=>Classical.propDecidable _
structure GRing where
 kind:Int
 parts:List Int
 deriving DecidableEq
instance:Enc GRing:=⟨fun r=>.agg [.int .i64 r.kind,.sl (ens r.parts)],2,by decide,fun _=>rfl⟩
@[simp] theorem yb1(r:GRing):enc r=.agg [.int .i64 r.kind,.sl (ens r.parts)]:=rfl
@[simp] theorem z8a:Enc.sz GRing=2:=rfl
def GRing.ok(r:GRing):Bool:=if r.kind=6 then decide (2<=r.parts.length/\r.parts.length<=3/\∀ k∈r.parts,1<=k/\k<=5)else decide (1<=r.kind/\r.kind<=5/\r.parts=[])
theorem zpa(r:GRing):Sp P F.iq [enc r] (.pure (.bool r.ok)):=by
 refine Sp.vz c.iq fun _=>?_;simp[g.iq];refine⟨fun h6=>⟨fun h=>?_,fun h=>⟨fun h2=>?_,fun h2=>?_⟩⟩,fun h6=>⟨fun h=>⟨fun h2=>?_,fun h2=>?_⟩,fun h=>?_⟩⟩
 ·simp[GRing.ok,h6];intro h';omega
 ·simp[GRing.ok,h6];intro h' h'';omega
 rotate_left
 ·simp[GRing.ok,h6,h,h2]
 ·simp[GRing.ok,h6];intro h';omega
 ·simp[GRing.ok,h6];intro h';omega
 refine zaj (S:=fun k:Nat=>mkSt [(1,.ptr 1 0 0 0),(3,.p (.int .i64 k))] [(1,⟨2,[.p (enc r)]⟩)]) (I:=fun k=>k<=r.parts.length/\∀ i,(h:i<r.parts.length)->i<k->1<=r.parts[i]/\r.parts[i]<=5) (m:=fun k=>r.parts.length - k) 0
  (Weak.to [1,3] [((1,0),1)] (by simp)) ⟨by omega,fun i h h0=>by omega⟩ ?_
 rintro k ⟨h3,h4⟩ R hn hr hx;have e1:=i64s k;simp[g.pd,mkSt];refine⟨fun hk=>?_,fun hk=>hx _ _ ?_⟩
 ·have bad:¬ (1<=r.parts[k]/\r.parts[k]<=5)->r.ok=false:=fun hb=>by simp only[GRing.ok,yf1 h6,decide_eq_false_iff_not];exact fun h'=>hb (h'.2.2 _ (yfi hk))
  refine zad hk ?_;refine⟨fun h5=>hr _ ?_,fun h5=>?_⟩
  ·simp[bad (by omega)]
  refine zad hk ?_;simp[e1];refine⟨fun h7=>hr _ ?_,fun h7=>hn (k+1) _ (Weak.to [1,3] [((1,0),1)] (by simp)) ⟨by omega,fun i h hi=>?_⟩ (by omega)⟩
  ·simp[bad (by omega)]
  ·by_cases hik:i<k
   ·exact h4 i h hik
   ·have:i=k:=by omega
    subst this;omega
 ·have:r.ok=true:=by simp only[GRing.ok,yf1 h6,decide_eq_true_eq];refine⟨by omega,by omega,fun x hx=>?_⟩;obtain⟨i,hi,rfl⟩:=List.getElem_of_mem hx;exact h4 i hi (by omega)
  simp[this]
inductive GW.sm (n:Nat):GW->Prop
 | mk {q:GRat} {c:Int} {i:Bool} {s:UInt64} {p:List GMono} {ps:List GW}:q.sm n->psm p n->p.length<=n->ps.length<=n->(∀ w∈ps,GW.sm n w)->GW.sm n (.mk q c i s p ps)
theorem GW.sm.q{n:Nat}{w:GW}(h:w.sm n):w.q.sm n:=by cases h;assumption
theorem GW.sm.poly{n:Nat}{w:GW}(h:w.sm n):psm w.poly n:=by cases h;assumption
theorem GW.sm.len{n:Nat}{w:GW}(h:w.sm n):w.poly.length<=n:=by cases h;assumption
theorem GW.sm.plen{n:Nat}{w:GW}(h:w.sm n):w.parts.length<=n:=by cases h;assumption
theorem GW.sm.parts{n:Nat}{w:GW}(h:w.sm n):∀ x∈w.parts,x.sm n:=by cases h;assumption
theorem GW.sm.ind{n:Nat}{M:GW->Prop}(h:∀ v,v.sm n->(∀ w∈v.parts,M w)->M v):∀ v,v.sm n->M v:=by
 intro v hv
 induction hv with|@mk q c i s p ps hq hp hpl hps hw ih=>exact h _ (.mk hq hp hpl hps hw) ih
theorem z1v(r:GRing)(i:Nat)(h:i<r.parts.length):Sp P F.je [enc r,.int .i64 i] (.pure (enc (⟨r.parts[i],[]⟩:GRing))):=by refine Sp.vz c.je fun _=>?_;simp[g.je];refine zad h ?_;simp
end Go.Ab
namespace Go.Ab
section
variable {α : Type} (key : α -> List Int) (up : α -> α -> α) (nw : α -> α)
def mst(out:List α)(y : α):List α :=
 match out with
 | []=>[nw y]
 | [z]=>if key z=key y then[up z y]else[z,nw y]
 | z::r=>z::mst r y
def mrg(l:List α):List α := l.foldl (mst key up nw) []
def insR(s:List α)(x : α):List α :=
 match s with
 | []=>[x]
 | z::r=>if key x<key z then x::z::r else z::insR r x
def insF(out:List α)(x : α):List α :=
 match out with
 | []=>[nw x]
 | z::r=>if key z<key x then z::insF r x else if key z=key x then up z x::r else nw x::z::r
def srt(l:List α):List α := l.foldl (insR key) []
def nfm(l:List α):List α := l.foldl (insF key up nw) []
variable {key up nw} (hup:∀ a b,key (up a b)=key a) (hnw:∀ a,key (nw a)=key a)
theorem zof(a b:List Int):a<b\/a=b\/b<a:=by
 by_cases h:a<b
 ·exact .inl h
 ·by_cases h2:b<a
  ·exact .inr (.inr h2)
  ·exact .inr (.inl (List.le_antisymm (List.not_lt.1 h2) (List.not_lt.1 h)))
theorem zyn{a b c:List Int}(h:¬ b<a)(k:b<c):a<c:=by
 rcases zof a b with h1|h1|h1
 ·exact List.lt_trans h1 k
 ·rw[h1];exact k
 ·exact absurd h1 h
theorem zlf{a b c:List Int}(h:a<b)(k:¬ c<b):a<c:=by
 rcases zof b c with h1|h1|h1
 ·exact List.lt_trans h h1
 ·rw[<- h1];exact h
 ·exact absurd h1 k
theorem z94(out:List α)(y : α):mst key up nw out y≠[]:=by
 match out with
 | []=>simp[mst]
 | [z]=>simp only[mst];split<;>simp
 | z::w::r=>simp[mst]
theorem zk4(z : α){r:List α}(y : α)(h:r≠[]):mst key up nw (z::r) y=z::mst key up nw r y:=by
 match r with
 | []=>exact absurd rfl h
 | w::r=>rfl
theorem zn7(o:List α){r:List α}(y : α)(h:r≠[]):mst key up nw (o++r) y=o++mst key up nw r y:=by
 induction o with
 | nil=>rfl
 | cons z o ih=>rw[yi2,zk4 z y (by simp[h]),ih];rfl
theorem zt9(o:List α):∀ (l:List α) {r:List α},r≠[]->l.foldl (mst key up nw) (o++r)=o++l.foldl (mst key up nw) r
 | [],r,_=>rfl
 | y::l,r,h=>by simp only[yi7];rw[zn7 o y h];exact zt9 o l (z94 r y)
include hup hnw in
theorem zn6(out:List α)(y : α):∃ o z,mst key up nw out y=o++[z]/\key z=key y:=by
 match out with
 | []=>exact⟨[],nw y,rfl,hnw y⟩
 | [z] =>
  simp only[mst];split
  ·rename_i h;exact⟨[],up z y,rfl,by rw[hup,h]⟩
  ·exact⟨[z],nw y,rfl,hnw y⟩
 | z::w::r =>
  obtain⟨o,u,h1,h2⟩:=zn6 (w::r) y;exact⟨z::o,u,by rw[zk4 z y (by simp),h1];rfl,h2⟩
theorem zn5{o:List α}{z y : α}(h:key z≠key y):mst key up nw (o++[z]) y=o++[z,nw y]:=by rw[zn7 o y (by simp)];simp[mst,h]
theorem zrq{o:List α}{z y : α}(h:key z=key y):mst key up nw (o++[z]) y=o++[up z y]:=by rw[zn7 o y (by simp)];simp[mst,h]
theorem zt8{o:List α}{z : α}{B:List α}(h:∀ b∈B,key z≠key b):B.foldl (mst key up nw) (o++[z])=o++[z]++mrg key up nw B:=by
 cases B with
 | nil=>simp[mrg]
 | cons b B =>
  simp only[yi7,mrg];rw[zn5 (h b (by simp))];have:o++[z,nw b]=(o++[z])++[nw b]:=by simp
  rw[this,zt9 (o++[z]) B (by simp)];rfl
def Srt(key : α -> List Int)(l:List α):Prop:=l.Pairwise fun a b=>¬ key b<key a
def SSrt(key : α -> List Int)(l:List α):Prop:=l.Pairwise fun a b=>key a<key b
theorem ztj(l:List α)(y : α):mrg key up nw (l++[y])=mst key up nw (mrg key up nw l) y:=by simp[mrg,yh5]
include hup hnw in
theorem zg3:∀ (n:Nat) (l:List α),l.length=n->Srt key l->SSrt key (mrg key up nw l)/\(∀ z∈mrg key up nw l,∃ y∈l,key z=key y)/\(l=[]\/∃ o z o' y,mrg key up nw l=o++[z]/\l=o'++[y]/\key z=key y)
 | 0,l,hl,_=>by
  have:l=[]:=yii hl;subst this;exact⟨by simp[mrg,SSrt],by simp[mrg],.inl rfl⟩
 | n+1,l,hl,hs=>by
  obtain⟨l',y,rfl⟩:∃ l' y,l=l'++[y]:=⟨l.dropLast,l.getLast (by intro h;simp[h]at hl),(List.dropLast_concat_getLast _).symm⟩;have hl':l'.length=n:=by simpa using hl
  have hs':Srt key l':=(ygz.1 hs).1;have hle:∀ a∈l',¬ key y<key a:=fun a ha=>(ygz.1 hs).2.2 a ha y (by simp);obtain⟨i1,i2,i3⟩:=zg3 n l' hl' hs';rw[ztj];obtain⟨o,u,e1,e2⟩:=zn6 hup hnw (mrg key up nw l') y;refine⟨?_,?_,.inr ⟨o,u,l',y,e1,rfl,e2⟩⟩
  ·rcases i3 with rfl|⟨o1,z,o',y',f1,f2,f3⟩
   ·simp[mrg,mst,SSrt]
   ·rw[f1]at i1 ⊢;have g:=ygz.1 i1;by_cases hk:key z=key y
    ·rw[zrq hk];refine ygz.2 ⟨g.1,by simp,fun a ha b hb=>?_⟩;simp only[ygj]at hb;subst hb;rw[hup];exact g.2.2 a ha z (by simp)
    ·rw[zn5 hk];have hzy:key z<key y:=by
      rcases zof (key z) (key y)with h|h|h
      ·exact h
      ·exact absurd h hk
      ·rw[f3]at h;exact absurd h (hle y' (by rw[f2];simp))
     refine ygz.2 ⟨g.1,by simp[hnw,hzy],fun a ha b hb=>?_⟩;have haz:=g.2.2 a ha z (by simp);simp only[yf4,ygd,or_false]at hb;rcases hb with rfl|rfl
     ·exact haz
     ·rw[hnw];exact List.lt_trans haz hzy
  ·intro z hz;rcases i3 with rfl|⟨o1,z1,o',y',f1,f2,f3⟩
   ·simp[mrg,mst]at hz;subst hz;exact⟨y,by simp,hnw y⟩
   ·rw[f1]at hz;by_cases hk:key z1=key y
    ·rw[zrq hk]at hz;rcases yfk.1 hz with h|h
     ·obtain⟨q,q1,q2⟩:=i2 z (by rw[f1];simp[h]);exact⟨q,by simp[q1],q2⟩
     ·simp at h;subst h;exact⟨y,by simp,by rw[hup,hk]⟩
    ·rw[zn5 hk]at hz;simp only[yfk,yf4,ygd,or_false]at hz;rcases hz with h|rfl|rfl
     ·obtain⟨q,q1,q2⟩:=i2 z (by rw[f1];simp[h]);exact⟨q,by simp[q1],q2⟩
     ·obtain⟨q,q1,q2⟩:=i2 z (by rw[f1];simp);exact⟨q,by simp[q1],q2⟩
     ·exact⟨y,by simp,hnw y⟩
include hnw in
theorem zoj{x : α}{B:List α}(hB:∀ b∈B,key x<key b):∀ (A:List α),SSrt key A->(∀ a∈A,¬ key x<key a)->insF key up nw (A++B) x=mst key up nw A x++B
 | [],_,_=>by
  cases B with
  | nil=>rfl
  | cons b B =>
   have h:=hB b (by simp);have h1:¬ key b<key x:=List.lt_asymm h;have h2:key b≠key x:=fun e=>by rw[e]at h;exact yi8 _ h
   simp[insF,mst,h1,h2]
 | [z],hs,hle=>by
  rcases zof (key z) (key x)with h|h|h
  ·have hne:key z≠key x:=fun e=>by rw[e]at h;exact yi8 _ h
   have:=zoj hB [] (by simp[SSrt]) (by simp);simp only[yh7,mst]at this;simp[insF,mst,h,hne,this]
  ·have h2:¬ key x<key x:=yi8 _;simp[insF,mst,h,h2]
  ·exact absurd h (hle z (by simp))
 | z::w::r,hs,hle=>by have hs2:=ygg.1 hs;have hzx:key z<key x:=zlf (hs2.1 w (by simp)) (hle w (by simp));have ih:=zoj hB (w::r) hs2.2 (fun a ha=>hle a (by simp[ha]));rw[zk4 z x (by simp)];simp only[yi2,insF,hzx,yf2]at ih ⊢;rw[<- ih]
theorem ziv(x : α):∀ (s:List α),Srt key s->∃ A B,s=A++B/\insR key s x=A++x::B/\(∀ a∈A,¬ key x<key a)/\(∀ b∈B,key x<key b)
 | [],_=>⟨[],[],rfl,rfl,by simp,by simp⟩
 | z::r,hs=>by
  have hs2:=ygg.1 hs;by_cases h:key x<key z
  ·refine⟨[],z::r,rfl,by simp[insR,h],by simp,fun b hb=>?_⟩;rcases yf4.1 hb with rfl|hb
   ·exact h
   ·exact zlf h (hs2.1 b hb)
  ·obtain⟨A,B,h1,h2,h3,h4⟩:=ziv x r hs2.2;exact⟨z::A,B,by rw[h1];rfl,by simp[insR,h,h2],fun a ha=>by
    rcases yf4.1 ha with rfl|ha
    ·exact h
    ·exact h3 a ha,h4⟩
theorem zlh{x : α}{s:List α}(hs:Srt key s):Srt key (insR key s x):=by
 obtain⟨A,B,h1,h2,h3,h4⟩:=ziv x s hs;rw[h2];rw[h1]at hs;have g:=ygz.1 hs;refine ygz.2 ⟨g.1,ygg.2 ⟨fun b hb=>List.lt_asymm (h4 b hb),g.2.1⟩,fun a ha b hb=>?_⟩;rcases yf4.1 hb with rfl|hb
 ·exact h3 a ha
 ·exact g.2.2 a ha b hb
include hup hnw in
theorem z11{x : α}{s:List α}(hs:Srt key s):mrg key up nw (insR key s x)=insF key up nw (mrg key up nw s) x:=by
 obtain⟨A,B,h1,h2,h3,h4⟩:=ziv x s hs;subst h1;have g:=ygz.1 hs;obtain⟨a1,a2,a3⟩:=zg3 hup hnw A.length A rfl g.1;obtain⟨b1,b2,b3⟩:=zg3 hup hnw B.length B rfl g.2.1;have hBk:∀ b∈mrg key up nw B,key x<key b:=fun b hb=>by obtain⟨y,y1,y2⟩:=b2 b hb;rw[y2];exact h4 y y1
 have e1:mrg key up nw (A++B)=mrg key up nw A++mrg key up nw B:=by
  rcases a3 with rfl|⟨o,z,o',y,f1,f2,f3⟩
  ·simp[mrg]
  ·have:mrg key up nw (A++B)=B.foldl (mst key up nw) (mrg key up nw A):=by simp[mrg,yh5]
   rw[this,f1];refine zt8 fun b hb=>?_;have hlt:key z<key b:=by rw[f3];exact zyn (h3 y (by rw[f2];simp)) (h4 b hb)
   intro e;rw[e]at hlt;exact yi8 _ hlt
 have e2:mrg key up nw (A++x::B)=mst key up nw (mrg key up nw A) x++mrg key up nw B:=by
  have:mrg key up nw (A++x::B)=B.foldl (mst key up nw) (mst key up nw (mrg key up nw A) x):=by simp[mrg,yh5]
  rw[this];obtain⟨o,u,f1,f2⟩:=zn6 hup hnw (mrg key up nw A) x;rw[f1];refine zt8 fun b hb=>?_;intro e;have:=h4 b hb;rw[<- f2,e]at this;exact yi8 _ this
 rw[h2,e1,e2];exact(zoj hnw hBk _ a1 (fun a ha=>by
  obtain⟨y,y1,y2⟩:=a2 a ha;rw[y2];exact h3 y y1)).symm
include hup hnw in
theorem z6o(l:List α):mrg key up nw (srt key l)=nfm key up nw l/\Srt key (srt key l):=by
 have key':∀ (l s:List α),Srt key s->mrg key up nw (l.foldl (insR key) s)=l.foldl (insF key up nw) (mrg key up nw s)/\Srt key (l.foldl (insR key) s):=by
  intro l
  induction l with
  | nil=>intro s hs;exact⟨rfl,hs⟩
  | cons x l ih =>
   intro s hs;simp only[yi7];rw[<- z11 hup hnw hs];exact ih _ (zlh hs)
 exact key' l [] (by simp[Srt])
end
def lexI:List Int->List Int->Int
 | x::xs,y::ys=>if x<y then -1 else if y<x then 1 else lexI xs ys
 | _,_=>0
theorem zyg:∀ {a b:List Int},a.length=b.length->(lexI a b<0 ↔ a<b)
 | [],[],_=>by simp[lexI]
 | x::xs,y::ys,h=>by
  have ih:=zyg (a:=xs) (b:=ys) (by simpa using h);simp only[lexI,List.cons_lt_cons_iff];by_cases h1:x<y
  ·simp[h1]
  ·by_cases h2:y<x
   ·simp[h1,h2];omega
   ·have:x=y:=by omega
    subst this;simp[ih]
theorem zyh:∀ {a b:List Int},a.length=b.length->(lexI a b=0 ↔ a=b)
 | [],[],_=>by simp[lexI]
 | x::xs,y::ys,h=>by
  have ih:=zyh (a:=xs) (b:=ys) (by simpa using h);simp only[lexI,List.cons.injEq];by_cases h1:x<y
  ·simp[h1];omega
  ·by_cases h2:y<x
   ·simp[h1,h2];omega
   ·have:x=y:=by omega
    subst this;simp[ih]
def cmpI(x y:Int):Int:=if x<y then -1 else if y<x then 1 else 0
open Enc (enc)
structure GArc where
 f:Int
 l:Int
 t:Int
 w:GW
structure GTArc where
 f:Int
 i:Int
 o:Int
 t:Int
 w:GW
def GW.cl(w:GW):List PV:=[.bool w.q.neg,.sl (ens w.q.num),.sl (ens w.q.den),.int .i64 w.cost,.bool w.inf,.int .u64 w.set.toNat,.sl (ens w.poly),.sl (ens w.parts)]
instance:Enc GArc:=⟨fun x=>.agg ([.int .i64 x.f,.int .i64 x.l,.int .i64 x.t]++x.w.cl),11,by decide,fun _=>rfl⟩
instance:Enc GTArc:=⟨fun x=>.agg ([.int .i64 x.f,.int .i64 x.i,.int .i64 x.o,.int .i64 x.t]++x.w.cl),12,by decide,fun _=>rfl⟩
@[simp] theorem yed(x:GArc):enc x=.agg [.int .i64 x.f,.int .i64 x.l,.int .i64 x.t,.bool x.w.q.neg,.sl (ens x.w.q.num),.sl (ens x.w.q.den),.int .i64 x.w.cost,.bool x.w.inf,.int .u64 x.w.set.toNat,.sl (ens x.w.poly),.sl (ens x.w.parts)]:=rfl
@[simp] theorem yb0(x:GTArc):enc x=.agg [.int .i64 x.f,.int .i64 x.i,.int .i64 x.o,.int .i64 x.t,.bool x.w.q.neg,.sl (ens x.w.q.num),.sl (ens x.w.q.den),.int .i64 x.w.cost,.bool x.w.inf,.int .u64 x.w.set.toNat,.sl (ens x.w.poly),.sl (ens x.w.parts)]:=rfl
@[simp] theorem yam:Enc.sz GArc=11:=rfl
@[simp] theorem z79:Enc.sz GTArc=12:=rfl
structure GAuto where
 ring:GRing
 sy:Int
 st:Int
 ini:List GW
 fin:List GW
 arcs:List GArc
structure GTrans where
 ring:GRing
 i:Int
 o:Int
 st:Int
 ini:List GW
 fin:List GW
 arcs:List GTArc
instance:Enc GAuto:=⟨fun x=>.agg [.int .i64 x.ring.kind,.sl (ens x.ring.parts),.int .i64 x.sy,.int .i64 x.st,.sl (ens x.ini),.sl (ens x.fin),.sl (ens x.arcs)],7,by decide,fun _=>rfl⟩
instance:Enc GTrans:=⟨fun x=>.agg [.int .i64 x.ring.kind,.sl (ens x.ring.parts),.int .i64 x.i,.int .i64 x.o,.int .i64 x.st,.sl (ens x.ini),.sl (ens x.fin),.sl (ens x.arcs)],8,by decide,fun _=>rfl⟩
@[simp] theorem yb6(x:GAuto):enc x=.agg [.int .i64 x.ring.kind,.sl (ens x.ring.parts),.int .i64 x.sy,.int .i64 x.st,.sl (ens x.ini),.sl (ens x.fin),.sl (ens x.arcs)]:=rfl
@[simp] theorem yan(x:GTrans):enc x=.agg [.int .i64 x.ring.kind,.sl (ens x.ring.parts),.int .i64 x.i,.int .i64 x.o,.int .i64 x.st,.sl (ens x.ini),.sl (ens x.fin),.sl (ens x.arcs)]:=rfl
@[simp] theorem z8g:Enc.sz GAuto=7:=rfl
@[simp] theorem z7c:Enc.sz GTrans=8:=rfl
def GArc.key(x:GArc):List Int:=[x.f,x.l,x.t]
end Go.Ab
