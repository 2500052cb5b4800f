/-
Proofs for the law CountGoesOn, part 25. Conditions: none.
-/
import Derived.Test.YtdkocfjbmbenfaaGreatDoorCP24
set_option maxRecDepth 100000
set_option maxHeartbeats 4000000
set_option linter.all false
namespace Go.Ab
open Enc (enc)
theorem zxt {v p less A C x y l r:Nat} (h4:v+C=A+p*less) (e4:x+4294967296*l=y+less+r):v+p*r+(C+p*y)=A+p*x+p*4294967296*l:=by
 have e5:p*(x+4294967296*l)=p*(y+less+r):=by rw [e4]
 simp only [Nat.mul_add,Nat.mul_assoc] at *
 omega
theorem zkr {l:List UInt32} {k:Nat} (h:val l<4294967296^k):l.getD k 0=0:=by
 apply zgh
 rw [zfp,Nat.div_eq_of_lt h]; rfl
theorem ziy (a b:List UInt32) (hl:a.length<=1073741824) (hab:val b<=val a):Sp P F.fy [.sl (ens a),.sl (ens b)] (.pure (.sl (ens (lb (val a - val b))))):=by
 refine Sp.vz c.fy fun _=>?_
 simp [g.fy,go_sem]
 refine zai (S:=fun x:Nat × Nat × List UInt32=>mkSt [(0,.p (.sl (ens a))),(1,.p (.sl (ens b))),(5,.own 1 0 0 x.1),(6,.p (.int .u64 x.2.1)),(7,.p (.int .i64 x.1))] [(1,⟨1,avs x.2.2⟩)])
  (I:=fun x=>x.2.2.length=x.1/\x.1<=a.length/\x.2.1<=1/\val x.2.2+val (b.take x.1)=val (a.take x.1)+4294967296^x.1*x.2.1) (m:=fun x=>a.length - x.1) (0,0,[]) (Weak.nl 5 1 1 rfl (Weak.to [0,1,5,6,7] [((1,0),1)] (by simp [go_sem]))) ⟨rfl,by simp,by simp,by simp⟩ ?_
 rintro ⟨i,less,out⟩ ⟨h1,h2,h3,h4⟩ R hn hr hx
 simp only at h1 h2 h3 h4
 simp [g.qh,go_sem]
 refine ⟨fun h=>?_,fun h=>?_⟩
 ·refine zac (zpz _ _ (by omega)) rfl ?_
  simp [go_sem]
  refine zac (zpz _ _ (by omega)) rfl ?_
  simp [go_sem]
  have e1:=i64s i (by omega)
  have t1:=zb0 a i
  have t2:=zb0 b i
  have u1:=za3 (a.getD i 0)
  have u2:=za3 (b.getD i 0)
  simp only [List.getD_eq_getElem?_getD] at t1 t2 u1 u2
  generalize (a[i]?.getD 0).toNat=x at t1 u1 ⊢
  generalize (b[i]?.getD 0).toNat=y at t2 u2 ⊢
  obtain ⟨z,hz⟩:∃ z:UInt32,z.toNat=(x+4294967296 - y - less) % 4294967296:=⟨_,zav _⟩
  obtain ⟨l',hl'⟩:∃ l':Nat,l'=if x<y+less then 1 else 0:=⟨_,rfl⟩
  have e2:(1 - ((x:Int)+4294967296 - y - less) % 18446744073709551616 / 4294967296) % 18446744073709551616=(l':Int):=by subst hl'; split<;>omega
  have e3:((x:Int)+4294967296 - y - less) % 4294967296=(z.toNat:Int):=by rw [hz]; omega
  rw [e1,e2,e3]
  refine ⟨⟨by omega,by omega⟩,hn (i+1,l',out++[z]) _ (Weak.to [0,1,5,6,7] [((29,0),1)] (by simp [go_sem])) ⟨by simp [h1],by simp only; omega,by simp only; subst hl'; split<;>omega,?_⟩ (by simp only; omega)⟩
  simp only
  rw [zd2,hz,h1,t1,t2,Nat.pow_succ]
  have e4:x+4294967296*l'=y+less+(x+4294967296 - y - less) % 4294967296:=by subst hl'; split<;>omega
  generalize 4294967296^i=p at *
  generalize (x+4294967296 - y - less) % 4294967296=r at *
  exact zxt h4 e4
 ·refine hx _ _ ?_
  simp [go_sem]
  have hi:i=a.length:=by omega
  subst hi
  refine zac (zlj out) (zb1 (zc8 rfl rfl h1.symm) zcq) ?_
  rw [List.take_length,zhp (Nat.lt_of_le_of_lt hab (zb3 a))] at h4
  have u1:=zb3 out
  rw [h1] at u1
  have hless:less=0:=by
   rcases Nat.lt_or_ge 0 less with h5|h5
   ·have:less=1:=by omega
    subst this; omega
   ·omega
  subst hless
  rw [Nat.mul_zero,Nat.add_zero] at h4
  simp [go_sem]
  rw [show val out=val a - val b by omega]
theorem zgm (a b:List UInt32) (hl:a.length<=536870912) (hl2:b.length<=536870912):Sp P F.ft [.sl (ens a),.sl (ens b)] (.pure (.sl (ens (lb (val a*val b))))):=by
 refine Sp.vz c.ft fun _=>?_
 have e0:IntKind.i64.wrap ((a.length:Int)+b.length)=((a.length+b.length:Nat):Int):=i64w (by omega) (by omega)
 simp [g.ft,e0,go_sem]
 have e0':((a.length:Int)+b.length).toNat=a.length+b.length:=by omega
 simp only [e0']
 refine ⟨by omega,zai (S:=fun x:Nat × List UInt32=>mkSt [(0,.p (.sl (ens a))),(1,.p (.sl (ens b))),(5,.own 1 0 0 (a.length+b.length)),(6,.p (.int .i64 x.1))] [(1,⟨1,avs x.2⟩)])
  (I:=fun x=>x.2.length=a.length+b.length/\x.1<=a.length/\val x.2=val (a.take x.1)*val b) (m:=fun x=>a.length - x.1) (0,List.replicate (a.length+b.length) 0)
  (Weak.to [0,1,5,6] [((15,0),1)] (by simp [go_sem])) ⟨by simp,by simp,by simp [zd3]⟩ ?_⟩
 rintro ⟨i,out⟩ ⟨h1,h2,h3⟩ R hn hr hx
 simp only at h1 h2 h3
 simp [g.qe,go_sem]
 refine ⟨fun h=>?_,fun h=>?_⟩
 ·refine zai (S:=fun x:Nat × Nat × List UInt32=>mkSt [(0,.p (.sl (ens a))),(1,.p (.sl (ens b))),(5,.own 1 0 0 (a.length+b.length)),(6,.p (.int .i64 i)),(7,.p (.int .u64 x.2.1)),(8,.p (.int .i64 x.1))] [(1,⟨1,avs x.2.2⟩)])
   (I:=fun x=>x.2.2.length=a.length+b.length/\x.1<=b.length/\x.2.1<4294967296/\x.2.2.getD (i+b.length) 0=0/\val x.2.2+4294967296^i*4294967296^x.1*x.2.1=val (a.take i)*val b+4294967296^i*(a.getD i 0).toNat*val (b.take x.1)) (m:=fun x=>b.length - x.1) (0,0,out)
   (Weak.to [0,1,5,6,7,8] [((1,0),1)] (by simp [go_sem])) ⟨by simp [h1],by simp,by simp,?_,by simp [h3]⟩ ?_
  ·simp only
   refine zkr ?_
   rw [h3,Nat.pow_add]
   have q1:val (a.take i)<4294967296^i:=Nat.lt_of_lt_of_le (zb3 _) (Nat.pow_le_pow_right (by omega) (by simp; omega))
   exact Nat.mul_lt_mul'' q1 (zb3 b)
  rintro ⟨j,sum,o2⟩ ⟨k1,k2,k3,k5,k4⟩ R2 hn2 hr2 hx2
  simp only at k1 k2 k3 k4 k5
  simp [g.qd,go_sem]
  have ei1:=i64s i (by omega)
  refine ⟨fun g=>?_,fun g=>?_⟩
  ·have ew:IntKind.i64.wrap ((i:Int)+j)=((i+j:Nat):Int):=i64w (by omega) (by omega)
   have e1:=i64s j (by omega)
   rw [ew,e1,Int.toNat_natCast]
   refine zae (by omega) (zae (by omega) ⟨⟨by omega,by omega,by omega⟩,zae (by omega) ⟨⟨by omega,by omega,by omega⟩,zae (by omega) ?_⟩⟩)
   have t1:=zb0 b j
   have u0:=za3 a[i]
   have u1:=za3 b[j]
   have u2:=za3 o2[i+j]
   have vs:∀ z,val (o2.set (i+j) z)+4294967296^(i+j)*o2[i+j].toNat=val o2+4294967296^(i+j)*z.toNat:=fun z=>by
    have:=zoz o2 (i+j) z (by omega)
    simpa only [List.getD_eq_getElem?_getD,List.getElem?_eq_getElem (show i+j<o2.length by omega),Option.getD_some] using this
   have ga:(a.getD i 0)=a[i]:=by simp [List.getElem?_eq_getElem h]
   have gb:(b.getD j 0)=b[j]:=by simp [List.getElem?_eq_getElem g]
   rw [gb] at t1
   rw [ga] at k4
   generalize hx1:a[i].toNat=x at u0 k4 ⊢
   generalize b[j].toNat=y at t1 u1 ⊢
   generalize o2[i+j].toNat=o at u2 vs ⊢
   have hxy:x*y<=4294967295*4294967295:=Nat.mul_le_mul (by omega) (by omega)
   obtain ⟨z,hz⟩:∃ z:UInt32,z.toNat=(sum+(o+x*y)) % 4294967296:=⟨_,zav _⟩
   have e2:((x:Int)*y+o+sum) % 18446744073709551616 / 4294967296=(((sum+(o+x*y)) / 4294967296:Nat):Int):=by
    have:((x:Int)*y)=((x*y:Nat):Int):=by simp
    rw [this]; omega
   have e3:((x:Int)*y+o+sum) % 4294967296=(z.toNat:Int):=by
    have:((x:Int)*y)=((x*y:Nat):Int):=by simp
    rw [this,hz]; omega
   rw [e2,e3]
   refine hn2 (j+1,(sum+(o+x*y)) / 4294967296,o2.set (i+j) z) _ (Weak.to [0,1,5,6,7,8] [((1,0),1)] (by simp [go_sem])) ⟨by simp [k1],by simp only; omega,by simp only; omega,?_,?_⟩ (by simp only; omega)
   ·simp only
    rw [List.getD_eq_getElem?_getD,List.getElem?_set_ne (by omega),<- List.getD_eq_getElem?_getD]; exact k5
   ·simp only
    have v:=vs z
    rw [hz,Nat.pow_add] at v
    rw [t1,Nat.pow_succ,ga,hx1]
    have e4:=Nat.div_add_mod (sum+(o+x*y)) 4294967296
    exact znu v k4 e4
  ·refine hx2 _ _ ?_
   have hj:j=b.length:=by omega
   subst hj
   have ew:IntKind.i64.wrap ((i:Int)+b.length)=((i+b.length:Nat):Int):=i64w (by omega) (by omega)
   simp [ew,ei1,go_sem]
   have ew2:((i:Int)+b.length).toNat=i+b.length:=by omega
   rw [ew2]
   obtain ⟨z,hz⟩:∃ z:UInt32,z.toNat=sum:=⟨UInt32.ofNat sum,by rw [zav]; omega⟩
   have e3:(sum:Int) % 4294967296=(z.toNat:Int):=by rw [hz]; omega
   rw [e3]
   refine ⟨⟨by omega,by omega,by omega⟩,zae (by omega) ?_⟩
   refine hn (i+1,o2.set (i+b.length) z) _ (Weak.to [0,1,5,6] [((1,0),1)] (by simp [go_sem])) ⟨by simp [k1],by simp only; omega,?_⟩ (by simp only; omega)
   simp only
   have v:=zoz o2 (i+b.length) z (by omega)
   rw [k5,hz,Nat.pow_add] at v
   rw [List.take_length] at k4
   rw [zb0,Nat.add_mul]
   simp only [UInt32.toNat_zero,Nat.mul_zero,Nat.add_zero] at v
   rw [v,k4]
 ·refine hx _ _ ?_
  simp [go_sem]
  refine zac (zlj out) (zb1 (zc8 rfl rfl (by omega)) zcq) ?_
  simp [go_sem]
  have:i=a.length:=by omega
  subst this
  rw [h3,List.take_length]
end Go.Ab
namespace Go.Ab
open Enc (enc)
theorem zm0 (a b:List UInt32) (hl:a.length<=4194304) (hl2:b.length<=4194304) (hb:val b≠0) (hcb:zbi b):Sp P F.gj [.sl (ens a),.sl (ens b)] (.pure (.tup [.sl (ens (lb (val a / val b))),.sl (ens (lb (val a % val b)))])):=by
 refine Sp.vz c.gj fun _=>?_
 have e0:IntKind.i64.wrap (32*(a.length:Int))=32*(a.length:Int):=i64w (by omega) (by omega)
 have e1:IntKind.i64.wrap (32*(a.length:Int) - 1)=32*(a.length:Int) - 1:=i64w (by omega) (by omega)
 simp [g.gj,e0,e1,go_sem]
 refine ⟨by omega,zai (S:=fun x:Nat × Nat × List UInt32=>mkSt [(0,.p (.sl (ens a))),(1,.p (.sl (ens b))),(6,.own 1 0 0 a.length),(7,.p (.sl (ens (lb x.2.1)))),(8,.p (.int .i64 ((x.1:Int) - 1)))] [(1,⟨1,avs x.2.2⟩)])
  (I:=fun x=>x.2.2.length=a.length/\x.1<=32*a.length/\x.2.1<val b/\∃ Q,val x.2.2=2^x.1*Q/\val a / 2^x.1=Q*val b+x.2.1) (m:=fun x=>x.1) (32*a.length,0,List.replicate a.length 0)
  ((Weak.freeze (t:=7) rfl).trans (Weak.to [0,1,6,7,8] [((11,0),1)] (by simp [go_sem]))) ⟨by simp,by simp,by simp; omega,0,by simp [zd3],?_⟩ ?_⟩
 ·simp only [Nat.zero_mul,Nat.add_zero]
  rw [Nat.pow_mul]
  exact Nat.div_eq_of_lt (zb3 a)
 rintro ⟨k,R,q⟩ ⟨h1,h2,h3,Q,h4,h5⟩ X hn hr hx
 simp only at h1 h2 h3 h4 h5
 have hRl:=Nat.le_trans (zat (Nat.lt_trans h3 (zb3 b))) hl2
 rcases k with _|i
 ·simp [g.o5,go_sem]
  refine hx _ _ ?_
  simp [go_sem]
  refine zac (zlj q) (zb1 (zc8 rfl (by simp) (by omega)) zcq) ?_
  simp [go_sem]
  simp only [Nat.pow_zero,Nat.one_mul,Nat.div_one] at h4 h5
  have q1:val a / val b=val q:=by rw [h5,h4,Nat.mul_comm,Nat.mul_add_div (by omega),Nat.div_eq_of_lt h3]; omega
  have q2:val a % val b=R:=by rw [h5,Nat.mul_comm,Nat.mul_add_mod,Nat.mod_eq_of_lt h3]
  rw [q1,q2]; exact ⟨rfl,rfl⟩
 ·simp [g.o5,go_sem]
  refine zac (zpk (lb R) (lb R) (by omega) (by omega)) rfl ?_
  simp [go_sem]
  have hw:IntKind.i64.wrap ((i:Int) / 32)=((i / 32:Nat):Int):=by rw [i64w (by omega) (by omega)]; omega
  have hm:(i:Int).tmod 32=((i % 32:Nat):Int):=z36 i 32
  have hm2:((i % 32:Nat):Int) % 18446744073709551616=((i % 32:Nat):Int):=by omega
  have hm3:((i % 32:Nat):Int).toNat.min 32=i % 32:=Nat.min_eq_left (by rw [Int.toNat_natCast]; omega)
  rw [hw,hm,hm2,hm3,Int.toNat_natCast]
  have hbd:=z3l a i
  have hhs:=z2b (val a) i
  have hoq:=yct h4 (by omega)
  have hil:i / 32<a.length:=by omega
  have ga:(a.getD (i / 32) 0)=a[i / 32]:=by simp [List.getElem?_eq_getElem hil]
  rw [ga] at hbd
  refine zae hil ⟨by omega,by omega,?_⟩
  have hxl:=za3 a[i / 32]
  generalize a[i / 32]=x at hbd hxl ⊢
  have he:((x.toNat:Int) / 2^(i % 32))=((x.toNat / 2^(i % 32):Nat):Int):=by simp
  have hal:=z7b (x:=x.toNat / 2^(i % 32)) (y:=1) (Nat.lt_of_le_of_lt (Nat.div_le_self _ _) hxl) (by omega)
  rw [Nat.and_one_is_mod,show ((1:Nat):Int)=1 from rfl] at hal
  rw [he,hal,<- hbd]
  have hk1:IntKind.i64.wrap ((i:Int) - 1)=(i:Int) - 1:=i64w (by omega) (by omega)
  have hbit:(val a / 2^i % 2=0)\/(val a / 2^i % 2=1):=by omega
  refine ⟨fun hb1=>?_,fun hb0=>?_⟩
  ·refine zac (zpk (lb (R+R)) [1] (by have:=zjs (m:=R) (n:=R) hRl hRl; omega) (by simp)) (zb1 rfl (zb1 (zc8 rfl (by simp [go_sem]) (by simp)) zcq)) ?_
   obtain ⟨R2,hR2⟩:∃ R2,R+R+1=R2:=⟨_,rfl⟩
   have hB:val a / 2^i % 2=1:=by omega
   simp [zjc,hR2,go_sem]
   have hR2l:(lb R2).length<=4194305:=by
    have:=zjs hRl hRl
    have:=zjs (m:=R+R) (n:=1) (a:=4194305) (by omega) (by rw [zmc]; simp)
    first|(rw [<- hR2]; have h:=zat (n:=R+R+1) (k:=b.length+1) (by have:=zb3 b; rw [Nat.pow_succ]; omega); omega)|(rw [<- hR2]; omega)
   refine zac (zj1 (lb R2) b (by omega) (by omega) (zbn _) hcb) rfl ?_
   simp [zda,zhl,go_sem]
   refine ⟨fun hge=>?_,fun hlt=>?_⟩
   ·refine zac (ziy (lb R2) b (by omega) (by simpa using hge)) rfl ?_
    simp [go_sem]
    rw [hw,hm,hm2,hm3,Int.toNat_natCast,hk1]
    have hiq:i / 32<q.length:=by omega
    have gq:(q.getD (i / 32) 0)=q[i / 32]:=by simp [List.getElem?_eq_getElem hiq]
    rw [gq] at hoq
    obtain ⟨z,hz⟩:∃ z:UInt32,z.toNat=q[i / 32].toNat ||| 2^(i % 32):=⟨UInt32.ofNat _,by rw [zav,Nat.mod_eq_of_lt hoq.1]⟩
    have h2p:=zgt (s:=i % 32) (Nat.mod_lt _ (by omega))
    have hpc:((2:Int)^(i % 32) % 4294967296)=((2^(i % 32):Nat):Int):=by
     have:((2:Int)^(i % 32))=((2^(i % 32):Nat):Int):=by simp
     rw [this]
     generalize 2^(i % 32)=p at h2p ⊢
     omega
    have ho:=z0x (x:=q[i / 32].toNat) (y:=2^(i % 32)) (za3 _) (by omega)
    rw [hpc]
    refine ⟨⟨by omega,by omega,by omega⟩,zae hiq ⟨by omega,⟨by omega,by omega,by omega⟩,zae hiq ?_⟩⟩
    rw [ho,<- hz]
    refine hn (i,R2 - val b,q.set (i / 32) z) _ (Weak.to [0,1,6,7,8] [((1,0),1)] (by simp [go_sem])) ⟨by simp [h1],by simp only; omega,by simp only; omega,2*Q+1,?_,?_⟩ (by simp)
    ·simp only; exact hoq.2 z hz
    ·simp only; rw [hhs,h5,hB,Nat.add_mul,Nat.mul_assoc,Nat.mul_add]; omega
   ·refine hn (i,R2,q) _ (Weak.to [0,1,6,7,8] [((1,0),1)] (by simp [hk1,go_sem])) ⟨h1,by simp only; omega,hlt,2*Q,?_,?_⟩ (by simp)
    ·simp only; rw [h4,Nat.pow_succ,Nat.mul_assoc]
    ·simp only; rw [hhs,h5,hB,<- hR2,Nat.mul_add,Nat.mul_assoc]; omega
  ·obtain ⟨R2,hR2⟩:∃ R2,R+R=R2:=⟨_,rfl⟩
   have hB:val a / 2^i % 2=0:=by omega
   simp [hR2,go_sem]
   have hR2l:(lb R2).length<=4194305:=by
    have:=zjs hRl hRl
    have:=zjs (m:=R+R) (n:=1) (a:=4194305) (by omega) (by rw [zmc]; simp)
    first|(rw [<- hR2]; have h:=zat (n:=R+R+1) (k:=b.length+1) (by have:=zb3 b; rw [Nat.pow_succ]; omega); omega)|(rw [<- hR2]; omega)
   refine zac (zj1 (lb R2) b (by omega) (by omega) (zbn _) hcb) rfl ?_
   simp [zda,zhl,go_sem]
   refine ⟨fun hge=>?_,fun hlt=>?_⟩
   ·refine zac (ziy (lb R2) b (by omega) (by simpa using hge)) rfl ?_
    simp [go_sem]
    rw [hw,hm,hm2,hm3,Int.toNat_natCast,hk1]
    have hiq:i / 32<q.length:=by omega
    have gq:(q.getD (i / 32) 0)=q[i / 32]:=by simp [List.getElem?_eq_getElem hiq]
    rw [gq] at hoq
    obtain ⟨z,hz⟩:∃ z:UInt32,z.toNat=q[i / 32].toNat ||| 2^(i % 32):=⟨UInt32.ofNat _,by rw [zav,Nat.mod_eq_of_lt hoq.1]⟩
    have h2p:=zgt (s:=i % 32) (Nat.mod_lt _ (by omega))
    have hpc:((2:Int)^(i % 32) % 4294967296)=((2^(i % 32):Nat):Int):=by
     have:((2:Int)^(i % 32))=((2^(i % 32):Nat):Int):=by simp
     rw [this]
     generalize 2^(i % 32)=p at h2p ⊢
     omega
    have ho:=z0x (x:=q[i / 32].toNat) (y:=2^(i % 32)) (za3 _) (by omega)
    rw [hpc]
    refine ⟨⟨by omega,by omega,by omega⟩,zae hiq ⟨by omega,⟨by omega,by omega,by omega⟩,zae hiq ?_⟩⟩
    rw [ho,<- hz]
    refine hn (i,R2 - val b,q.set (i / 32) z) _ (Weak.to [0,1,6,7,8] [((1,0),1)] (by simp [go_sem])) ⟨by simp [h1],by simp only; omega,by simp only; omega,2*Q+1,?_,?_⟩ (by simp)
    ·simp only; exact hoq.2 z hz
    ·simp only; rw [hhs,h5,hB,Nat.add_mul,Nat.mul_assoc,Nat.mul_add]; omega
   ·refine hn (i,R2,q) _ (Weak.to [0,1,6,7,8] [((1,0),1)] (by simp [hk1,go_sem])) ⟨h1,by simp only; omega,hlt,2*Q,?_,?_⟩ (by simp)
    ·simp only; rw [h4,Nat.pow_succ,Nat.mul_assoc]
    ·simp only; rw [hhs,h5,hB,<- hR2,Nat.mul_add,Nat.mul_assoc]; omega
end Go.Ab
namespace Go.Ab
open Enc (enc)
theorem zor (a b:List UInt32) (hl:a.length<=4194304) (hl2:b.length<=4194304) (ha:zbi a) (hb:zbi b):Sp P F.gf [.sl (ens a),.sl (ens b)] (.pure (.sl (ens (lb (Nat.gcd (val a) (val b)))))):=by
 refine Sp.vz c.gf fun _=>?_
 simp [g.gf,go_sem]
 refine zai (S:=fun x:List UInt32 × List UInt32=>mkSt [(0,.p (.sl (ens x.1))),(1,.p (.sl (ens x.2)))] []) (I:=fun x=>x.1.length<=4194304/\x.2.length<=4194304/\zbi x.1/\zbi x.2/\Nat.gcd (val x.1) (val x.2)=Nat.gcd (val a) (val b)) (m:=fun x=>val x.2) (a,b) (Weak.of (keep:=[0,1]) (ids:=[]) rfl) ⟨hl,hl2,ha,hb,rfl⟩ ?_
 rintro ⟨x,y⟩ ⟨h1,h2,h3,h4,h5⟩ R hn hr hx
 simp at h1 h2 h3 h4 h5
 simp [g.qj,go_sem]
 refine ⟨fun h=>?_,fun h=>hx _ _ ?_⟩
 ·have hy:val y≠0:=fun h0=>by rw [<- zca h4,h0] at h; simp at h
  refine zac (zm0 x y h1 h2 hy h4) rfl ?_
  simp [go_sem]
  have hlt:=Nat.mod_lt (val x) (Nat.pos_of_ne_zero hy)
  have hlen:=zat (Nat.lt_trans hlt (zb3 y))
  refine hn (y,lb (val x % val y)) _ (Weak.of (keep:=[0,1]) (ids:=[]) rfl) ⟨h2,by simp only; omega,h4,zbn _,?_⟩ (by simpa using hlt)
  simp only [znr]
  rw [<- h5,Nat.gcd_comm (val x),Nat.gcd_rec (val y) (val x),Nat.gcd_comm]
 ·subst h
  simp at h5
  simp [go_sem]
  rw [<- h5,zca h3]
theorem zos (x:GRat):Sp P F.fu [enc x] (.pure (.sl (ens (if x.den=[] then [(1:UInt32)] else x.den)))):=by
 refine Sp.vz c.fu fun _=>?_
 simp [g.fu,go_sem]
 refine ⟨fun h=>by simp [h,go_sem],fun h=>by simp [h]⟩
theorem zit (f:Fr) (hd:f.d≠0) (hx:f.e.sm 4194304):Sp P F.dq [.bool f.neg,.sl (ens (lb f.n)),.sl (ens (lb f.d))] (.pure (enc (rto f.v))):=by
 obtain ⟨h1,h2⟩:=hx
 simp only [Fr.e] at h1 h2
 refine Sp.vz c.dq fun _=>?_
 simp [g.dq,go_sem]
 refine ⟨fun h=>?_,fun h=>?_⟩
 ·simp [zlh h,zd6,go_sem]
 ·have hg:=Nat.gcd_pos_of_pos_left f.d (Nat.pos_of_ne_zero h)
  refine zac (zor _ _ h1 h2 (zbn _) (zbn _)) rfl ?_
  have hlg:(lb (Nat.gcd f.n f.d)).length<=4194304:=by
   refine Nat.le_trans (zat (n:=Nat.gcd f.n f.d) (k:=(lb f.n).length) ?_) h1
   exact Nat.lt_of_le_of_lt (Nat.gcd_le_left _ (Nat.pos_of_ne_zero h)) (zh3 _)
  rw [zzz hd h]
  simp [go_sem]
  refine zac (zm0 (lb f.n) (lb (Nat.gcd f.n f.d)) h1 hlg (by simp; omega) (zbn _)) rfl ?_
  simp [go_sem]
  refine zac (zm0 (lb f.d) (lb (Nat.gcd f.n f.d)) h2 hlg (by simp; omega) (zbn _)) rfl ?_
  simp [go_sem]
  refine zac (zjo _) rfl ?_
  have h1':(lb (f.d / Nat.gcd f.n f.d)=[1]) ↔ f.d / Nat.gcd f.n f.d=1:=⟨fun h=>by have:=congrArg val h; simpa using this,fun h=>by rw [h,zmc]⟩
  simp [h1',go_sem]
  refine ⟨fun h6=>?_,fun h6=>?_⟩<;>simp [h6,go_sem]
theorem zna (v:Int) (h1 : -9223372036854775808<=v) (h2:v<=9223372036854775807):Sp P F.jo [.int .i64 v] (.pure (.int .u64 v.natAbs)):=by
 refine Sp.vz c.jo fun _=>?_
 simp [g.jo,go_sem]
 refine ⟨fun h=>?_,fun h=>by omega⟩
 rw [i64w (n:=v+1) (by omega) (by omega),i64w (by omega) (by omega)]
 omega
theorem zdn {a:List UInt32} (h:0<a.length):(a[a.length - 1].toNat=0) ↔ ¬ zbi a:=by
 simp only [zbi,List.getLast?_eq_getElem?,List.getElem?_eq_getElem (show a.length - 1<a.length by omega)]
 simp
 exact ⟨fun h=>zgh (by simpa using h),fun h=>by rw [h]; rfl⟩
theorem z28 (l:List UInt32) (h:zbi l):l=[1] ↔ val l=1:=⟨fun h=>by rw [h]; rfl,fun h0=>by rw [<- zca h,h0,zmc]⟩
theorem zif (x:GRat) (hx:x.sm 4194304):Sp P F.ay [enc x] (.pure (.bool x.valid)):=by
 obtain ⟨h1,h2⟩:=hx
 have en:IntKind.i64.wrap ((x.num.length:Int) - 1)=(x.num.length:Int) - 1:=i64w (by omega) (by omega)
 have ed:IntKind.i64.wrap ((x.den.length:Int) - 1)=(x.den.length:Int) - 1:=i64w (by omega) (by omega)
 have en':((x.num.length:Int) - 1).toNat=x.num.length - 1:=by omega
 have ed':((x.den.length:Int) - 1).toNat=x.den.length - 1:=by omega
 refine Sp.vz c.ay fun _=>?_
 by_cases hn:x.num=[]
 ·by_cases hd:x.den=[]
  ·simp [g.ay,hn,hd,go_sem]
   refine zac (zjo []) rfl ?_
   simp [hn,hd,go_sem]
   rw [zgj]
   refine ⟨fun h=>?_,fun h=>?_⟩<;>simp [GRat.valid,hn,hd,h,go_sem]
  ·have hdl:=List.length_pos_iff.2 hd
   simp [g.ay,hn,hdl,ed,ed',go_sem]
   refine zae (by omega) ⟨by omega,fun h3=>?_,fun h3=>?_⟩
   ·simp [GRat.valid,(zdn hdl).1 h3]
   ·have hc:zbi x.den:=by simpa using (mt (zdn hdl).2) h3
    refine zac (zjo x.den) rfl ?_
    simp [hn,go_sem]
    refine ⟨fun h4=>by simp [GRat.valid,hn,hd],fun h4=>?_⟩
    rw [zgj]
    refine ⟨fun h=>?_,fun h=>?_⟩<;>simp [GRat.valid,hn,hd,h,go_sem]
 ·have hnl:=List.length_pos_iff.2 hn
  by_cases hd:x.den=[]
  ·simp [g.ay,hnl,hd,en,en',go_sem]
   refine zae (by omega) ⟨by omega,fun h3=>?_,fun h3=>?_⟩
   ·simp [GRat.valid,(zdn hnl).1 h3]
   ·have hc:zbi x.num:=by simpa using (mt (zdn hnl).2) h3
    refine zac (zjo []) rfl ?_
    simp [hn,hd,go_sem]
    simp [GRat.valid,hn,hd,hc]
  ·have hdl:=List.length_pos_iff.2 hd
   simp [g.ay,hnl,hdl,en,en',ed,ed',go_sem]
   refine zae (by omega) ⟨by omega,fun h3=>?_,fun h3=>zae (by omega) ⟨by omega,fun h4=>?_,fun h4=>?_⟩⟩
   ·simp [GRat.valid,(zdn hnl).1 h3]
   ·simp [GRat.valid,(zdn hdl).1 h4]
   ·have hc:zbi x.num:=by simpa using (mt (zdn hnl).2) h3
    have hcd:zbi x.den:=by simpa using (mt (zdn hdl).2) h4
    refine zac (zjo x.den) rfl ?_
    simp [hn,hd,go_sem]
    refine ⟨fun h5=>?_,fun h5=>?_⟩
    ·simp [GRat.valid,hn,hd,(z28 _ hcd).1 h5]
    ·refine zac (zor x.num x.den h1 h2 hc hcd) rfl ?_
     simp [go_sem]
     refine zac (zjo _) rfl ?_
     have h1':(lb ((val x.num).gcd (val x.den))=[1]) ↔ (val x.num).gcd (val x.den)=1:=⟨fun h=>by have:=congrArg val h; simpa using this,fun h=>by rw [h,zmc]⟩
     have h5':¬ val x.den=1:=fun h=>h5 ((z28 _ hcd).2 h)
     simp [GRat.valid,hn,hd,hc,hcd,h1',h5',go_sem]
end Go.Ab
namespace Go.Ab
open Enc (enc)
theorem zd4 (x:GRat) (hx:x.sm 4194304):Sp P F.ax [enc x] (.pure (enc (rto x.v))):=by
 refine Sp.vz c.ax fun _=>?_
 simp [g.ax,go_sem]
 refine zac (zif x hx) rfl ?_
 simp [go_sem]
 rw [zgj]
 refine ⟨fun h=>?_,fun h=>?_⟩
 ·have:=hx.1
  have:=hx.2
  simp [zhv h,go_sem]
  omega
 ·simp [zlg h,zd6,go_sem]
theorem zik (x:GRat) (hx:x.sm 4194304):Sp P F.bm [enc x] (.pure (.int .i64 (sgnR x.v))):=by
 refine Sp.vz c.bm fun _=>?_
 simp [g.bm,go_sem]
 refine zac (zd4 x hx) rfl ?_
 have hz:x.v=0 ↔ x.v.num=0:=Rat.num_eq_zero.symm
 have hnn:0<=x.v ↔ 0<=x.v.num:=Rat.num_nonneg.symm
 simp [rto,sgnR,go_sem]
 rw [hnn]
 simp only [hz]
 refine ⟨fun h=>?_,fun h=>⟨fun h'=>?_,fun h'=>?_⟩⟩
 ·rw [if_neg (by omega),if_pos h]
 ·have h2:x.v.num≠0:=fun h=>by rw [h] at h'; simp at h'
  rw [if_neg h2,if_neg (by omega)]
 ·intro h2; exact absurd h' h2
theorem z9s (x:GRat) (hx:x.sm 4194304):Sp P F.jp [enc x] (.pure (enc (rto (-x.v)))):=by
 refine Sp.vz c.jp fun _=>?_
 simp [g.jp,go_sem]
 refine zac (zd4 x hx) rfl ?_
 have hz:x.v=0 ↔ x.v.num=0:=Rat.num_eq_zero.symm
 simp [rto,go_sem]
 simp only [hz]
 refine ⟨fun h'=>?_,fun h'=>by omega⟩
 have h2:x.v.num≠0:=fun h=>by rw [h] at h'; simp at h'
 by_cases h:x.v.num<0
 ·have:¬ 0<x.v.num:=by omega
  simp [h,this]
 ·have:0<x.v.num:=by omega
  simp [h,this]
theorem z6a (q:Rat):(frq q).e=⟨(rto q).neg,(rto q).num,if (rto q).den=[] then [1] else (rto q).den⟩:=by
 have:=zmr (zcd q)
 rw [ze8] at this; exact this
theorem zt0 (x y:GRat) (hx:x.sm 1048576) (hy:y.sm 1048576):Sp P F.gg [enc x,enc y] (.pure (enc (rto (x.v*y.v)))):=by
 have h1:=zdz hx (by omega)
 have h2:=zdz hy (by omega)
 have h3:=z2k h1 h2
 have h4:(fmul (frq x.v) (frq y.v)).d≠0:=Nat.mul_ne_zero (zea _) (zea _)
 have hv:=z7x (frq x.v) (frq y.v)
 rw [zjx,zjx] at hv
 have ex:=z6a x.v
 have ey:=z6a y.v
 simp only [Fr.e,GRat.mk.injEq] at ex ey
 obtain ⟨ex1,ex2,ex3⟩:=ex
 obtain ⟨ey1,ey2,ey3⟩:=ey
 obtain ⟨a1,a2⟩:=h1
 obtain ⟨b1,b2⟩:=h2
 simp only [Fr.e] at a1 a2 b1 b2
 refine Sp.vz c.gg fun _=>?_
 simp [g.gg,go_sem]
 refine zag (zd4 x (hx.mono (by omega))) rfl ?_
 simp [go_sem]
 refine zag (zd4 y (hy.mono (by omega))) rfl ?_
 simp [go_sem]
 refine zag (zgm (rto x.v).num (rto y.v).num (by rw [<- ex2]; omega) (by rw [<- ey2]; omega)) rfl ?_
 simp [go_sem]
 refine zag (zos (rto x.v)) rfl ?_
 simp [go_sem]
 refine zag (zos (rto y.v)) rfl ?_
 simp only [<- ex1,<- ex2,<- ex3,<- ey1,<- ey2,<- ey3]
 simp [go_sem]
 refine zag (zgm _ _ (by omega) (by omega)) rfl ?_
 simp [go_sem]
 refine zag (zit (fmul (frq x.v) (frq y.v)) h4 (h3.mono (by omega))) ?_ ?_
 ·simp [fmul,bne,go_sem]
 ·simp [hv,go_sem]
theorem zuw (x y:GRat) (hx:x.sm 1048576) (hy:y.sm 1048576):Sp P F.db [enc x,enc y] (.pure (enc (rto (x.v+y.v)))):=by
 have h1:=zdz hx (by omega)
 have h2:=zdz hy (by omega)
 have h3:=zmw h1 h2
 have h4:(fadd (frq x.v) (frq y.v)).d≠0:=zsi (zea _) (zea _)
 have hv:=zsh (f:=frq x.v) (g:=frq y.v) (zea _) (zea _)
 rw [zjx,zjx] at hv
 have ex:=z6a x.v
 have ey:=z6a y.v
 have m1:=zek h1.1 h2.2
 have m2:=zek h2.1 h1.2
 have m3:=zek h1.2 h2.2
 simp only [Fr.e,GRat.mk.injEq] at ex ey
 obtain ⟨ex1,ex2,ex3⟩:=ex
 obtain ⟨ey1,ey2,ey3⟩:=ey
 obtain ⟨a1,a2⟩:=h1
 obtain ⟨b1,b2⟩:=h2
 simp only [Fr.e] at a1 a2 b1 b2
 refine Sp.vz c.db fun _=>?_
 simp [g.db,go_sem]
 refine zag (zd4 x (hx.mono (by omega))) rfl ?_
 simp [go_sem]
 refine zag (zd4 y (hy.mono (by omega))) rfl ?_
 simp [go_sem]
 refine zag (zos (rto y.v)) rfl ?_
 simp only [<- ex1,<- ex2,<- ex3,<- ey1,<- ey2,<- ey3]
 simp [go_sem]
 refine zag (zgm _ _ (by omega) (by omega)) rfl ?_
 simp [go_sem]
 refine zag (zos (rto x.v)) rfl ?_
 simp only [<- ex1,<- ex2,<- ex3,<- ey1,<- ey2,<- ey3]
 simp [go_sem]
 refine zag (zgm _ _ (by omega) (by omega)) rfl ?_
 simp [go_sem]
 refine zag (zos (rto x.v)) rfl ?_
 simp only [<- ex1,<- ex2,<- ex3,<- ey1,<- ey2,<- ey3]
 simp [go_sem]
 refine zag (zos (rto y.v)) rfl ?_
 simp only [<- ex1,<- ex2,<- ex3,<- ey1,<- ey2,<- ey3]
 simp [go_sem]
 refine zag (zgm _ _ (by omega) (by omega)) rfl ?_
 simp [go_sem]
 generalize frq x.v=u at *
 generalize frq y.v=w at *
 refine ⟨fun h=>?_,fun h=>?_⟩
 ·refine zag (zpk (lb (u.n*w.d)) (lb (w.n*u.d)) (by omega) (by omega)) rfl ?_
  simp [go_sem]
  refine zag (zit (fadd u w) h4 (h3.mono (by omega))) ?_ ?_
  ·simp [h,fadd,go_sem]
  ·simp [hv,go_sem]
 ·refine zac (zj1 (lb (u.n*w.d)) (lb (w.n*u.d)) (by omega) (by omega) (zbn _) (zbn _)) rfl ?_
  simp [zda,zhl,go_sem]
  refine ⟨fun h'=>?_,fun h'=>?_⟩
  ·refine zag (ziy (lb (u.n*w.d)) (lb (w.n*u.d)) (by omega) (by simpa using h')) rfl ?_
   simp [go_sem]
   refine zag (zit (fadd u w) h4 (h3.mono (by omega))) ?_ ?_
   ·simp [h,h',fadd,go_sem]
   ·simp [hv,go_sem]
  ·have h'':¬ (w.n*u.d<=u.n*w.d):=Nat.not_le.2 h'
   refine zag (ziy (lb (w.n*u.d)) (lb (u.n*w.d)) (by omega) (by simp; omega)) rfl ?_
   simp [go_sem]
   refine zag (zit (fadd u w) h4 (h3.mono (by omega))) ?_ ?_
   ·simp [h,h'',fadd,go_sem]
   ·simp [hv,go_sem]
theorem zny {x y:GRat} {n:Nat} (hx:x.sm n) (hy:y.sm n) (hn:1<=n):(rto (x.v+y.v)).sm (n+n+1):=by
 have e:=zsh (f:=frq x.v) (g:=frq y.v) (zea _) (zea _)
 rw [zjx,zjx] at e
 rw [<- e]
 exact zin (zsi (zea _) (zea _)) (zmw (zdz hx hn) (zdz hy hn))
theorem zxf {x y:GRat} {n:Nat} (hx:x.sm n) (hy:y.sm n) (hn:1<=n):(rto (x.v*y.v)).sm (n+n):=by
 have e:=z7x (frq x.v) (frq y.v)
 rw [zjx,zjx] at e
 rw [<- e]
 exact zin (Nat.mul_ne_zero (zea _) (zea _)) (z2k (zdz hx hn) (zdz hy hn))
theorem znz {x:GRat} {n:Nat} (hx:x.sm n) (hn:1<=n):(rto (-x.v)).sm n:=by
 have e:=z2j (frq x.v)
 rw [zjx] at e
 rw [<- e]
 exact zin (f:=fneg (frq x.v)) (zea x.v) (zdz hx hn)
theorem z8j (x y:GRat) (hx:x.sm 1048576) (hy:y.sm 1048576):Sp P F.jf [enc x,enc y] (.pure (enc (rto (x.v - y.v)))):=by
 refine Sp.vz c.jf fun _=>?_
 simp [g.jf,go_sem]
 refine zag (z9s y (hy.mono (by omega))) rfl ?_
 simp [go_sem]
 refine zag (zuw x (rto (-y.v)) hx (znz hy (by omega))) rfl ?_
 simp [ze8,Rat.sub_eq_add_neg,go_sem]
theorem zm1 (x y:GRat) (hx:x.sm 1048576) (hy:y.sm 1048576):Sp P F.c9 [enc x,enc y] (.pure (.int .i64 (sgnR (x.v - y.v)))):=by
 have h:=zny hx (znz hy (by omega)) (by omega)
 rw [ze8,<- Rat.sub_eq_add_neg] at h
 refine Sp.vz c.c9 fun _=>?_
 simp [g.c9,go_sem]
 refine zac (z8j x y hx hy) rfl ?_
 simp [go_sem]
 refine zac (zik (rto (x.v - y.v)) (h.mono (by omega))) rfl ?_
 simp [ze8,go_sem]
theorem zwe (x y:GRat) (hx:x.sm 1048576) (hy:y.sm 1048576):Sp P F.gp [enc x,enc y] (.pure (.bool (decide (x.v<y.v)))):=by
 refine Sp.vz c.gp fun _=>?_
 simp [g.gp,go_sem]
 refine zac (zm1 x y hx hy) rfl ?_
 have hz:x.v<y.v ↔ (x.v - y.v).num<0:=by
  rw [Rat.lt_iff_sub_pos]
  have:(x.v - y.v) = -(y.v - x.v):=by rw [Rat.neg_sub]
  rw [this,Rat.neg_num]
  have h1:0<=y.v - x.v ↔ 0<=(y.v - x.v).num:=Rat.num_nonneg.symm
  have h2:(y.v - x.v)=0 ↔ (y.v - x.v).num=0:=Rat.num_eq_zero.symm
  rw [Rat.lt_iff_le_and_ne,h1,ne_comm,Ne,h2]; omega
 simp only [hz,sgnR]
 simp [go_sem]
 have h2:x.v - y.v=0 ↔ (x.v - y.v).num=0:=Rat.num_eq_zero.symm
 simp only [h2]
 generalize (x.v - y.v).num=z
 (repeat' split)<;>omega
theorem zrg (a b:List UInt32) (hl:a.length<=1073741824):Sp P F.kg [.sl (ens a),.sl (ens b)] (.pure (.bool (decide (a=b)))):=by
 refine Sp.vz c.kg fun _=>?_
 simp [g.kg,go_sem]
 refine ⟨fun h=>?_,fun h=>?_⟩
 ·have h:a.length=b.length:=by omega
  refine zai (S:=fun k:Nat=>mkSt [(0,.p (.sl (ens a))),(1,.p (.sl (ens b))),(5,.p (.int .i64 k))] []) (I:=fun k=>k<=a.length/\a.take k=b.take k) (m:=fun k=>a.length - k) 0 (Weak.of (keep:=[0,1,5]) (ids:=[]) rfl) ⟨by omega,by simp⟩ ?_
  rintro k ⟨h1,h2⟩ R hn hr hx
  simp [g.rh,mkSt,go_sem]
  refine ⟨fun hk=>zae hk (zae (by omega) ⟨fun he=>?_,fun hne=>hr _ ?_⟩),fun hk=>hx _ _ ?_⟩
  ·rw [i64w (by omega) (by omega)]
   refine hn (k+1) _ (Weak.of (keep:=[0,1,5]) (ids:=[]) rfl) ⟨by omega,?_⟩ (by omega)
   rw [List.take_succ_eq_append_getElem hk,List.take_succ_eq_append_getElem (by omega),h2,zgh (by omega:a[k].toNat=b[k].toNat)]
  ·simp [go_sem]
   intro hab; subst hab; exact hne rfl
  ·have:k=a.length:=by omega
   subst this
   simp [go_sem]
   rw [List.take_length,h,List.take_length] at h2; exact h2
 ·intro hab; subst hab; exact h rfl
deriving instance DecidableEq for GRat
theorem zch (x y:GRat) (hx:x.sm 1073741824):Sp P F.dw [enc x,enc y] (.pure (.bool (decide (x=y)))):=by
 refine Sp.vz c.dw fun _=>?_
 simp [g.dw,go_sem]
 refine ⟨fun h=>?_,fun h hxy=>h (by rw [hxy])⟩
 refine zac (zrg _ _ hx.1) rfl ?_
 simp [go_sem]
 refine ⟨fun h2=>?_,fun h2 hxy=>h2 (by rw [hxy])⟩
 refine zac (zrg _ _ hx.2) rfl ?_
 simp [go_sem]
 exact ⟨fun h3=>by cases x; cases y; simp_all,fun hxy=>by rw [hxy]⟩
theorem zv8 (a b:Int) (ha : -9223372036854775808<=a/\a<=9223372036854775807) (hb : -9223372036854775808<=b/\b<=9223372036854775807) :
  Sp P F.bq [.int .i64 a,.int .i64 b] (.pure (.tup [enc (if b=0 then rto 0 else rto (Rat.divInt a b)),.int .i64 (if b=0 then 11 else 0)])):=by
 have hal:=zat (n:=a.natAbs) (k:=2) (by omega)
 have hbl:=zat (n:=b.natAbs) (k:=2) (by omega)
 refine Sp.vz c.bq fun _=>?_
 simp [g.bq,go_sem]
 refine ⟨fun h=>by simp [h,zd6,go_sem],fun h=>?_⟩
 refine zac (zna a ha.1 ha.2) rfl ?_
 simp [go_sem]
 refine zac (zn8 a.natAbs (by omega)) (by simp [go_sem]) ?_
 simp [go_sem]
 refine zac (zna b hb.1 hb.2) rfl ?_
 simp [go_sem]
 refine zac (zn8 b.natAbs (by omega)) (by simp [go_sem]) ?_
 simp [go_sem]
 refine zac (zit ⟨decide (a<0) != decide (b<0),a.natAbs,b.natAbs⟩ (by simpa using h) ⟨by simp only [Fr.e]; omega,by simp only [Fr.e]; omega⟩) ?_ ?_
 ·simp [Fr.e,bne,go_sem]
 ·simp [zsn,h,go_sem]
theorem ycv (a b:Int) (ha : -9223372036854775808<=a/\a<=9223372036854775807) (hb : -9223372036854775808<=b/\b<=9223372036854775807) (h0:b≠0) :
  Sp P F.ky [.int .i64 a,.int .i64 b] (.pure (enc (rto (Rat.divInt a b)))):=by
 refine Sp.vz c.ky fun _=>?_
 simp [g.ky,go_sem]
 refine zac (zv8 a b ha hb) rfl ?_
 simp [h0,go_sem]
end Go.Ab
namespace Go.Ab
open Enc (enc)
theorem zas {P:Program} {N:Nat} {Q:Exit->St->Prop} {b:GC} {ks:List Kt} {st:St}
  (h:∀ R:Exit->St->Prop,(∀ s,vL P N Q b ks s->R .normal s)->(∀ s,Q .ret s->R .ret s)->(∀ id s,zem P N Q (zbm id ks) id s->R (.exit id) s)->vm P N R [.code b] st):vL P N Q b ks st:=by
 obtain ⟨ex,s,r1,r2⟩:=zc2 (P:=P) (N:=N) _ (Nat.le_refl _) (h (fun ex s=>(ex=.normal->vL P N Q b ks s)/\(ex ≠ .normal->semX P N Q ks ex s)) (fun s h=>⟨fun _=>h,fun h=>absurd rfl h⟩)
  (fun s h=>⟨fun h=>(by cases h),fun _=>zd5 h⟩) (fun id s h=>⟨fun h=>(by cases h),fun _=>zp2 (by simp) h (.inr ⟨id,rfl⟩)⟩))
 by_cases he:ex=.normal
 ·subst he
  obtain ⟨ex,s2,q1,q2⟩:=r2.1 rfl
  exact ⟨ex,s2,.next _ _ _ _ r1 q1,q2⟩
 ·exact ⟨ex,s,.out _ _ _ r1 he,r2.2 he⟩
structure Ex where
 a:Int
 b:Int
 c:Int
 deriving DecidableEq
instance:Enc Ex:=⟨fun x=>.agg [.int .i64 x.a,.int .i64 x.b,.int .i64 x.c],3,by decide,fun _=>rfl⟩
@[go_sem] theorem yhg (x:Ex):enc x=.agg [.int .i64 x.a,.int .i64 x.b,.int .i64 x.c]:=rfl
@[go_sem] theorem yee:Enc.sz Ex=3:=rfl
structure GMono where
 e:Ex
 coef:GRat
 deriving DecidableEq
instance:Enc GMono:=⟨fun x=>.agg [.int .i64 x.e.a,.int .i64 x.e.b,.int .i64 x.e.c,.bool x.coef.neg,.sl (ens x.coef.num),.sl (ens x.coef.den)],6,by decide,fun _=>rfl⟩
@[go_sem] theorem yej (x:GMono):enc x=.agg [.int .i64 x.e.a,.int .i64 x.e.b,.int .i64 x.e.c,.bool x.coef.neg,.sl (ens x.coef.num),.sl (ens x.coef.den)]:=rfl
@[go_sem] theorem ybb:Enc.sz GMono=6:=rfl
def Ex.cmp (x y:Ex):Int:=if x.a<y.a then -1 else if y.a<x.a then 1 else if x.b<y.b then -1 else if y.b<x.b then 1 else if x.c<y.c then -1 else if y.c<x.c then 1 else 0
def Ex.ok (x:Ex):Bool:=decide (0<=x.a/\x.a<=5/\0<=x.b/\x.b<=5/\0<=x.c/\x.c<=5/\x.a+x.b+x.c<=5)
@[go_sem] theorem w0:IntKind.i64.wrap 0=0:=by decide
@[go_sem] theorem w1:IntKind.i64.wrap 1=1:=by decide
@[go_sem] theorem w2:IntKind.i64.wrap 2=2:=by decide
@[go_sem] theorem w3:IntKind.i64.wrap 3=3:=by decide
@[go_sem] theorem w4:IntKind.i64.wrap 4=4:=by decide
theorem zlv (x y:Ex):Sp P F.ee [enc x,enc y] (.pure (.int .i64 (x.cmp y))):=by
 refine Sp.vz c.ee fun _=>?_
 simp [g.ee,go_sem]
 refine zas fun R hn hr hx=>?_
 simp [g.nc,go_sem]
 refine ⟨fun h=>hn _ ?_,fun h=>⟨fun h'=>hr _ (by simp [Ex.cmp,h',go_sem]),fun h'=>hr _ ?_⟩⟩
 ·refine zas fun R hn hr hx=>?_
  simp [g.nc,go_sem]
  refine ⟨fun h2=>hn _ ?_,fun h2=>⟨fun h'=>hr _ (by simp [Ex.cmp,h,h',go_sem]),fun h'=>hr _ ?_⟩⟩
  ·refine zas fun R hn hr hx=>?_
   simp [g.nc,go_sem]
   refine ⟨fun h3=>hn _ ?_,fun h3=>⟨fun h'=>hr _ (by simp [Ex.cmp,h,h2,h',go_sem]),fun h'=>hr _ ?_⟩⟩
   ·refine zas fun R hn hr hx=>?_
    simp [g.nc,go_sem]
    refine hx _ _ ?_
    simp [Ex.cmp,h,h2,h3,go_sem]
   ·have:y.c<x.c:=by omega
    have h4:¬ x.c<y.c:=by omega
    simp [Ex.cmp,h,h2,h4,this,go_sem]
  ·have:y.b<x.b:=by omega
   have h4:¬ x.b<y.b:=by omega
   simp [Ex.cmp,h,h4,this,go_sem]
 ·have:y.a<x.a:=by omega
  have h4:¬ x.a<y.a:=by omega
  simp [Ex.cmp,h4,this,go_sem]
theorem zlr (x:Ex):Sp P F.io [enc x] (.pure (.bool x.ok)):=by
 refine Sp.vz c.io fun _=>?_
 simp [g.io,go_sem]
 have bad:¬ (0<=x.a/\x.a<=5/\0<=x.b/\x.b<=5/\0<=x.c/\x.c<=5)->x.ok=false:=fun h=>by unfold Ex.ok; exact decide_eq_false (fun h'=>h (by omega))
 refine zas fun R hn hr hx=>?_
 simp [g.na,go_sem]
 refine ⟨fun h=>hr _ (by simp [bad (by omega),go_sem]),fun h=>⟨fun h'=>hr _ (by simp [bad (by omega),go_sem]),fun h'=>hn _ ?_⟩⟩
 rw [i64w (by omega) (by omega)]
 refine zas fun R hn hr hx=>?_
 simp [g.na,go_sem]
 refine ⟨fun h2=>hr _ (by simp [bad (by omega),go_sem]),fun h2=>⟨fun h2'=>hr _ (by simp [bad (by omega),go_sem]),fun h2'=>hn _ ?_⟩⟩
 rw [i64w (by omega) (by omega)]
 refine zas fun R hn hr hx=>?_
 simp [g.na,go_sem]
 refine ⟨fun h3=>hr _ (by simp [bad (by omega),go_sem]),fun h3=>⟨fun h3'=>hr _ (by simp [bad (by omega),go_sem]),fun h3'=>hn _ ?_⟩⟩
 rw [i64w (by omega) (by omega)]
 refine zas fun R hn hr hx=>?_
 simp [g.na,go_sem]
 refine hx _ _ ?_
 simp [Ex.ok,go_sem]
 simp [h,h',h2,h2',h3,h3']
def GMono.ok (m:GMono):Bool:=m.e.ok&&m.coef.valid&&decide (m.coef.v≠0)
def PVal (p:List GMono):Prop:=∀ i,(h:i<p.length)->p[i].ok=true/\(0<i->p[i].e.cmp (p[i - 1]'(by omega)).e<0)
noncomputable instance (p:List GMono):Decidable (PVal p):=Classical.propDecidable _
noncomputable def pv (p:List GMono):List GMono:=if PVal p then p else []
def psm (p:List GMono) (n:Nat):Prop:=∀ m∈p,m.coef.sm n
theorem zfc (q:Rat):sgnR q=0 ↔ q=0:=by
 have hz:q=0 ↔ q.num=0:=Rat.num_eq_zero.symm
 unfold sgnR; rw [hz]; (repeat' split)<;>omega
theorem zqz (p:List GMono) (hp:psm p 1048576) (hl:p.length<=1073741824):Sp P F.ib [.sl (ens p)] (.pure (.bool (decide (PVal p)))):=by
 refine Sp.vz c.ib fun _=>?_
 simp [g.ib,go_sem]
 refine zai (S:=fun k:Nat=>mkSt [(0,.p (.sl (ens p))),(3,.p (.int .i64 k))] []) (I:=fun k=>k<=p.length/\∀ i,(h:i<p.length)->i<k->p[i].ok=true/\(0<i->p[i].e.cmp (p[i - 1]'(by omega)).e<0)) (m:=fun k=>p.length - k) 0 (Weak.of (keep:=[0,3]) (ids:=[]) rfl) ⟨by omega,fun i h h0=>by omega⟩ ?_
 rintro k ⟨h1,h2⟩ R hn hr hx
 simp [g.rp,mkSt,go_sem]
 refine ⟨fun hk=>?_,fun hk=>hx _ _ ?_⟩
 ·refine zae hk ?_
  have bad:p[k].ok=false->decide (PVal p)=false:=fun h=>decide_eq_false fun hv=>by have:=(hv k hk).1; rw [h] at this; cases this
  refine zaa (zlr p[k].e) rfl ?_
  rcases Bool.eq_false_or_eq_true p[k].e.ok with h3|h3
  rotate_left
  ·simp [h3,go_sem]
   refine hr _ ?_
   simp [go_sem]; simpa using bad (by simp [GMono.ok,h3])
  simp [h3,go_sem]
  refine zae hk ?_
  have hsm:p[k].coef.sm 1048576:=hp _ (List.getElem_mem hk)
  refine zaa (zif p[k].coef (hsm.mono (by omega))) rfl ?_
  rcases Bool.eq_false_or_eq_true p[k].coef.valid with h4|h4
  rotate_left
  ·simp [h4,go_sem]
   refine hr _ ?_
   simp [go_sem]; simpa using bad (by simp [GMono.ok,h4])
  simp [h4,go_sem]
  refine zae hk ?_
  refine zaa (zik p[k].coef (hsm.mono (by omega))) rfl ?_
  simp [zfc,go_sem]
  refine ⟨fun h5=>?_,fun h5=>?_⟩
  ·refine hr _ ?_
   simp [go_sem]; simpa using bad (by simp [GMono.ok,h5])
  have hok:p[k].ok=true:=by simp [GMono.ok,h3,h4,h5]
  have e1:IntKind.i64.wrap ((k:Int) - 1)=(k:Int) - 1:=i64w (by omega) (by omega)
  have e2:((k:Int) - 1).toNat=k - 1:=by omega
  have e3:=i64s k (by omega)
  have step:(0<k->p[k].e.cmp (p[k - 1]'(by omega)).e<0)->∀ i,(h:i<p.length)->i<k+1->p[i].ok=true/\(0<i->p[i].e.cmp (p[i - 1]'(by omega)).e<0):=fun hc i h hi=>by
   by_cases hik:i<k
   ·exact h2 i h hik
   ·have:i=k:=by omega
    subst this; exact ⟨hok,hc⟩
  refine ⟨fun h6=>?_,fun h6=>?_⟩
  ·refine zae hk ?_
   simp [e1,e2,go_sem]
   refine zae (by omega) ⟨by omega,?_⟩
   refine zaa (zlv p[k].e (p[k - 1]'(by omega)).e) rfl ?_
   simp [e3,go_sem]
   refine ⟨fun h7=>hr _ ?_,fun h7=>?_⟩
   ·simp [go_sem]
    exact fun hv=>by have:=(hv k hk).2 h6; omega
   ·exact hn (k+1) _ (Weak.of (keep:=[0,3]) (ids:=[]) rfl) ⟨by omega,step fun _=>h7⟩ (by omega)
  ·simp [e3,go_sem]
   exact hn (k+1) _ (Weak.of (keep:=[0,3]) (ids:=[]) rfl) ⟨by omega,step fun h=>by omega⟩ (by omega)
 ·have:k=p.length:=by omega
  subst this
  have:PVal p:=fun i h=>h2 i h h
  simp [this,go_sem]
end Go.Ab
namespace Go.Ab
open Enc (enc)
theorem psm.mono {p:List GMono} {m n:Nat} (h:psm p m) (k:m<=n):psm p n:=fun x hx=>(h x hx).mono k
theorem zhc (p:List GMono) (hp:psm p 1048576) (hl:p.length<=1073741824):Sp P F.d6 [.sl (ens p)] (.pure (.sl (ens (pv p)))):=by
 refine Sp.vz c.d6 fun _=>?_
 simp [g.d6,go_sem]
 refine zaa (zqz p hp hl) rfl ?_
 by_cases hv:PVal p
 rotate_left
 ·simp [hv,pv,go_sem]
 simp [hv,pv,go_sem]
 refine zai (S:=fun x:Nat × List GMono=>mkSt [(0,.p (.sl (ens p))),(3,.own 1 0 0 x.2.length),(4,.p (.int .i64 x.1))] [(1,⟨6,avs x.2⟩)]) (I:=fun x=>x.1<=p.length/\x.2=p.take x.1) (m:=fun x=>p.length - x.1) (0,[])
  (Weak.nl 3 1 6 rfl (Weak.to [0,3,4] [((1,0),1)] (by simp [go_sem]))) ⟨by omega,by simp⟩ ?_
 rintro ⟨k,l⟩ ⟨h1,h2⟩ R hn hr hx
 simp at h1 h2 ⊢
 have hll:l.length=k:=by rw [h2]; simp; omega
 simp [g.rn,mkSt,go_sem]
 refine ⟨fun hk=>?_,fun hk=>hx _ _ ?_⟩
 ·refine zae hk ?_
  skip
  refine zae hk ?_
  have ok:=(hv k hk).1
  have hva:p[k].coef.valid=true:=by simp [GMono.ok] at ok; exact ok.1.2
  refine zaa (zd4 p[k].coef ((hp _ (List.getElem_mem hk)).mono (by omega))) rfl ?_
  rw [zhv hva]
  simp [go_sem]
  have e3:=i64s k (by omega)
  rw [e3]
  refine ⟨by omega,hn (k+1,l++[p[k]]) _ (Weak.to [0,3,4] [((28,0),1)] (by simp [go_sem])) ⟨by omega,?_⟩ (by simp; omega)⟩
  show l++[p[k]]=p.take (k+1)
  rw [h2,List.take_succ_eq_append_getElem hk]
 ·have:k=p.length:=by omega
  have hl2:l=p:=by rw [h2,this,List.take_length]
  subst hl2
  simp [go_sem]
theorem z7h (p:List GMono):PVal (pv p):=by
 unfold pv; split
 ·assumption
 ·intro i h; simp at h
theorem z7i {p:List GMono} {n:Nat} (h:psm p n):psm (pv p) n:=by
 unfold pv; split
 ·exact h
 ·intro x hx; simp at hx
theorem z7j (p:List GMono):(pv p).length<=p.length:=by unfold pv; split<;>simp
theorem zrq {p:List GMono} (h:PVal p):pv p=p:=by simp [pv,h]
def pat:List GMono->Ex->Nat
 | [],_=>0
 | m::p,e=>if 0<m.e.cmp e then pat p e+1 else 0
theorem ycr (p:List GMono) (e:Ex):pat p e<=p.length:=by
 induction p with
 | nil=>simp [pat]
 | cons m p ih=>simp only [pat]; split<;>simp<;>omega
theorem ycq {p:List GMono} {e:Ex} {i:Nat} (h:i<pat p e):∃ h:i<p.length,0<p[i].e.cmp e:=by
 induction p generalizing i with
 | nil=>simp [pat] at h
 | cons m p ih =>
  simp only [pat] at h; split at h
  ·rename_i hm
   cases i with
   | zero=>exact ⟨by simp,by simpa using hm⟩
   | succ i=>obtain ⟨h1,h2⟩:=ih (by omega:i<pat p e); exact ⟨by simp; omega,by simpa using h2⟩
  ·omega
theorem ycs {p:List GMono} {e:Ex} (h:pat p e<p.length):¬ 0<p[pat p e].e.cmp e:=by
 induction p with
 | nil=>simp at h
 | cons m p ih =>
  by_cases hm:0<m.e.cmp e
  ·have:pat (m::p) e=pat p e+1:=by simp [pat,hm]
   simp only [this,List.getElem_cons_succ]
   exact ih (by simp [this] at h; omega)
  ·have:pat (m::p) e=0:=by simp [pat,hm]
   simp only [this,List.getElem_cons_zero]; exact hm
theorem z5i {p:List GMono} {e:Ex} {k:Nat} (h1:k<=p.length) (h2:∀ i,(h:i<p.length)->i<k->0<p[i].e.cmp e) (h3:∀ h:k<p.length,¬ 0<p[k].e.cmp e):k=pat p e:=by
 rcases Nat.lt_trichotomy k (pat p e) with h|h|h
 ·obtain ⟨a,b⟩:=ycq h; exact absurd b (h3 a)
 ·exact h
 ·have:=ycr p e
  exact absurd (h2 _ (by omega) h) (ycs (by omega))
def pput (p:List GMono) (e:Ex) (q:Rat):List GMono :=
 if e.ok=false\/q=0 then p else
 match p[pat p e]? with
 | none=>p++[⟨e,rto q⟩]
 | some m=>if m.e=e then (if q+m.coef.v=0 then p.take (pat p e)++p.drop (pat p e+1) else p.take (pat p e)++⟨e,rto (q+m.coef.v)⟩::p.drop (pat p e+1)) else p.take (pat p e)++⟨e,rto q⟩::p.drop (pat p e)
theorem Ex.cmp_zero {x y:Ex}:x.cmp y=0 ↔ x=y:=by
 unfold Ex.cmp; obtain ⟨a,b,c⟩:=x; obtain ⟨a',b',c'⟩:=y
 simp only [Ex.mk.injEq]; (repeat' split)<;>omega
theorem zpw {α : Type} [Enc α] {n:Nat} {st:St} {es:List AV} {l l':List α} (h:es=avs l) (k:l=l'):es.mapM (toPV st (n+1))=some (ens l'):=by rw [h,k,zv7]
attribute [local go_sem] zam Opd.slots
theorem z0g (p:List GMono) (m:GMono) (hp:psm p 1048576) (hl:p.length<=1073741823) (hm:m.coef.sm 1048576) (hv:m.coef.valid=true):Sp P F.ia [.sl (ens p),enc m] (.pure (.sl (ens (pput p m.e m.coef.v)))):=by
 refine Sp.vz c.ia fun _=>?_
 simp [g.ia,go_sem]
 refine zaa (zlr m.e) rfl ?_
 rcases Bool.eq_false_or_eq_true m.e.ok with h3|h3
 rotate_left
 ·simp [h3,pput,go_sem]
 simp [h3,go_sem]
 refine zaa (zik m.coef (hm.mono (by omega))) rfl ?_
 simp [zfc,go_sem]
 refine ⟨fun h0=>by simp [h0,pput,go_sem],fun h0=>?_⟩
 refine zai (S:=fun k:Nat=>mkSt [(0,.p (.sl (ens p))),(3,.ptr 1 0 0 0),(5,.p (.int .i64 k))] [(1,⟨6,[.p (enc m)]⟩)]) (I:=fun k=>k<=p.length/\∀ i,(h:i<p.length)->i<k->0<p[i].e.cmp m.e) (m:=fun k=>p.length - k) 0
  (Weak.to [0,3,5] [((3,0),1)] (by simp [go_sem])) ⟨by omega,fun i h h0=>by omega⟩ ?_
 rintro k ⟨h1,h2⟩ R hn hr hx
 have e1:=i64s k (by omega)
 have fin:(∀ h:k<p.length,¬ 0<p[k].e.cmp m.e)->R (.exit 0) (mkSt [(0,.p (.sl (ens p))),(3,.ptr 1 0 0 0),(5,.p (.int .i64 k))] [(1,⟨6,[.p (enc m)]⟩)]):=by
  intro h5
  refine hx _ _ ?_
  have hk:=z5i h1 h2 h5
  have hmin:min k p.length=k:=Nat.min_eq_left h1
  simp [mkSt,go_sem,h1]
  refine ⟨by omega,fun h6=>?_,fun h6=>?_⟩
  ·refine ⟨by omega,by omega,by omega,?_⟩
   have h7:p.drop k=[]:=by rw [List.drop_eq_nil_iff]; omega
   refine zpw (l:=p++[m]) ?_ ?_
   ·rw [List.take_of_length_le (by simp [go_sem,h7]; omega),h7,show p.take k=p by rw [List.take_of_length_le (by omega)]]
    simp [go_sem]
   ·have h8:p[k]?=none:=by rw [List.getElem?_eq_none_iff]; omega
    simp [pput,h3,h0,<- hk,h8,zhv hv]
  have hkl:k<p.length:=by omega
  refine zae hkl ?_
  refine zaa (zlv p[k].e m.e) rfl ?_
  simp [go_sem,e1]
  have hts:(p.drop k).take (p.length - k)=p[k]::p.drop (k+1):=by
   rw [List.take_of_length_le (by simp),List.drop_eq_getElem_cons hkl]
  have h8:p[k]?=some p[k]:=List.getElem?_eq_getElem hkl
  refine ⟨fun h9=>?_,fun h9=>?_⟩
  ·have h10:=Ex.cmp_zero.1 h9
   refine zae hkl ?_
   refine zaa (zuw m.coef p[k].coef hm (hp _ (List.getElem_mem hkl))) rfl ?_
   simp [go_sem]
   refine zaa (zik (rto (m.coef.v+p[k].coef.v)) ((zny hm (hp _ (List.getElem_mem hkl)) (by omega)).mono (by omega))) rfl ?_
   rw [ze8]
   simp [go_sem,zfc,hmin,e1]
   have hts2:(p.drop (k+1)).take (p.length - (k+1))=p.drop (k+1):=by rw [List.take_of_length_le (by simp)]
   rw [hts2]
   refine ⟨fun h11=>⟨⟨by omega,by omega⟩,by omega,zpw (l:=p.take k++p.drop (k+1)) ?_ ?_⟩,fun h11=>⟨by omega,⟨by omega,by omega⟩,by omega,by omega,zpw (l:=p.take k++⟨m.e,rto (m.coef.v+p[k].coef.v)⟩::p.drop (k+1)) ?_ ?_⟩⟩
   ·rw [List.take_of_length_le (by simp [go_sem]; omega)]
    simp [go_sem]
   ·simp [pput,h3,h0,<- hk,h8,h10,h11]
   ·rw [List.take_of_length_le (by simp [go_sem]; omega)]
    simp [go_sem]
   ·simp [pput,h3,h0,<- hk,h8,h10,h11]
  ·refine ⟨⟨hmin.symm,by omega⟩,h1,⟨hmin.symm,by omega⟩,by omega,?_⟩
   rw [hts]
   refine zpw (l:=p.take k++m::p[k]::p.drop (k+1)) ?_ ?_
   ·rw [List.take_of_length_le (by simp [go_sem]; omega)]
    simp [go_sem]
   ·have h10:p[k].e≠m.e:=fun h=>h9 (Ex.cmp_zero.2 h)
    simp [pput,h3,h0,<- hk,h8,zhv hv,h10]
 clear hx
 simp [g.ro,mkSt,go_sem] at fin ⊢
 refine ⟨fun hk=>?_,fun hk=>fin fun h=>by omega⟩
 refine zae hk ?_
 refine zaa (zlv p[k].e m.e) rfl ?_
 simp [go_sem,e1]
 refine ⟨fun h4=>hn (k+1) _ (Weak.to [0,3,5] [((1,0),1)] (by simp [go_sem])) ⟨by omega,fun i h hi=>?_⟩ (by omega),fun h4=>fin fun _=>h4⟩
 by_cases hik:i<k
 ·exact h2 i h hik
 ·have:i=k:=by omega
  subst this; exact h4
end Go.Ab
