/-
Proofs for the law CountIsFinite, part 25. Conditions: none.
-/
import Derived.Test.YtdkocfjbmbenfaaGreatDoorDP24
set_option maxRecDepth 100000
set_option maxHeartbeats 4000000
set_option linter.all false
namespace Go.Ab
open Enc (enc)
theorem zuy {v p less A C x y l r:Nat} (h4:v+C=A+p*less) (e4:x+4294967296*l=y+less+r):v+p*r+(C+p*y)=A+p*x+p*4294967296*l:=by
 have e5:p*(x+4294967296*l)=p*(y+less+r):=by rw [e4]
 simp only [Nat.mul_add,Nat.mul_assoc] at *
 omega
theorem zji {l:List UInt32} {k:Nat} (h:val l<4294967296^k):l.getD k 0=0:=by
 apply zg0
 rw [zfa,Nat.div_eq_of_lt h]; rfl
theorem zhv (a b:List UInt32) (hl:a.length<=1073741824) (hab:val b<=val a):Sp P F.ec [.sl (ens a),.sl (ens b)] (.pure (.sl (ens (lb (val a - val b))))):=by
 refine Sp.vz c.ec fun _=>?_
 simp [g.ec,go_sem]
 refine zai (S:=fun x:Nat × Nat × List UInt32=>mkSt [(0,.p (.sl (ens a))),(1,.p (.sl (ens b))),(5,.own 1 0 0 x.1),(6,.p (.int .u64 x.2.1)),(7,.p (.int .i64 x.1))] [(1,⟨1,avs x.2.2⟩)])
  (I:=fun x=>x.2.2.length=x.1/\x.1<=a.length/\x.2.1<=1/\val x.2.2+val (b.take x.1)=val (a.take x.1)+4294967296^x.1*x.2.1) (m:=fun x=>a.length - x.1) (0,0,[]) (Weak.nl 5 1 1 rfl (Weak.to [0,1,5,6,7] [((1,0),1)] (by simp [go_sem]))) ⟨rfl,by simp,by simp,by simp⟩ ?_
 rintro ⟨i,less,out⟩ ⟨h1,h2,h3,h4⟩ R hn hr hx
 simp only at h1 h2 h3 h4
 simp [g.n8,go_sem]
 refine ⟨fun h=>?_,fun h=>?_⟩
 ·refine zab (zn4 _ _ (by omega)) rfl ?_
  simp [go_sem]
  refine zab (zn4 _ _ (by omega)) rfl ?_
  simp [go_sem]
  have e1:=i64s i (by omega)
  have t1:=zby a i
  have t2:=zby b i
  have u1:=za1 (a.getD i 0)
  have u2:=za1 (b.getD i 0)
  simp only [List.getD_eq_getElem?_getD] at t1 t2 u1 u2
  generalize (a[i]?.getD 0).toNat=x at t1 u1 ⊢
  generalize (b[i]?.getD 0).toNat=y at t2 u2 ⊢
  obtain ⟨z,hz⟩:∃ z:UInt32,z.toNat=(x+4294967296 - y - less) % 4294967296:=⟨_,zau _⟩
  obtain ⟨l',hl'⟩:∃ l':Nat,l'=if x<y+less then 1 else 0:=⟨_,rfl⟩
  have e2:(1 - ((x:Int)+4294967296 - y - less) % 18446744073709551616 / 4294967296) % 18446744073709551616=(l':Int):=by subst hl'; split<;>omega
  have e3:((x:Int)+4294967296 - y - less) % 4294967296=(z.toNat:Int):=by rw [hz]; omega
  rw [e1,e2,e3]
  refine ⟨⟨by omega,by omega⟩,hn (i+1,l',out++[z]) _ (Weak.to [0,1,5,6,7] [((29,0),1)] (by simp [go_sem])) ⟨by simp [h1],by simp only; omega,by simp only; subst hl'; split<;>omega,?_⟩ (by simp only; omega)⟩
  simp only
  rw [zds,hz,h1,t1,t2,Nat.pow_succ]
  have e4:x+4294967296*l'=y+less+(x+4294967296 - y - less) % 4294967296:=by subst hl'; split<;>omega
  generalize 4294967296^i=p at *
  generalize (x+4294967296 - y - less) % 4294967296=r at *
  exact zuy h4 e4
 ·refine hx _ _ ?_
  simp [go_sem]
  have hi:i=a.length:=by omega
  subst hi
  refine zab (zj7 out) (zbz (zcz rfl rfl h1.symm) zcj) ?_
  rw [List.take_length,zgx (Nat.lt_of_le_of_lt hab (zb1 a))] at h4
  have u1:=zb1 out
  rw [h1] at u1
  have hless:less=0:=by
   rcases Nat.lt_or_ge 0 less with h5|h5
   ·have:less=1:=by omega
    subst this; omega
   ·omega
  subst hless
  rw [Nat.mul_zero,Nat.add_zero] at h4
  simp [go_sem]
  rw [show val out=val a - val b by omega]
theorem zj8 (a b:List UInt32) (hl:a.length<=536870912) (hl2:b.length<=536870912):Sp P F.ig [.sl (ens a),.sl (ens b)] (.pure (.sl (ens (lb (val a*val b))))):=by
 refine Sp.vz c.ig fun _=>?_
 have e0:IntKind.i64.wrap ((a.length:Int)+b.length)=((a.length+b.length:Nat):Int):=i64w (by omega) (by omega)
 simp [g.ig,e0,go_sem]
 have e0':((a.length:Int)+b.length).toNat=a.length+b.length:=by omega
 simp only [e0']
 refine ⟨by omega,zai (S:=fun x:Nat × List UInt32=>mkSt [(0,.p (.sl (ens a))),(1,.p (.sl (ens b))),(5,.own 1 0 0 (a.length+b.length)),(6,.p (.int .i64 x.1))] [(1,⟨1,avs x.2⟩)])
  (I:=fun x=>x.2.length=a.length+b.length/\x.1<=a.length/\val x.2=val (a.take x.1)*val b) (m:=fun x=>a.length - x.1) (0,List.replicate (a.length+b.length) 0)
  (Weak.to [0,1,5,6] [((15,0),1)] (by simp [go_sem])) ⟨by simp,by simp,by simp [zdt]⟩ ?_⟩
 rintro ⟨i,out⟩ ⟨h1,h2,h3⟩ R hn hr hx
 simp only at h1 h2 h3
 simp [g.n4,go_sem]
 refine ⟨fun h=>?_,fun h=>?_⟩
 ·refine zai (S:=fun x:Nat × Nat × List UInt32=>mkSt [(0,.p (.sl (ens a))),(1,.p (.sl (ens b))),(5,.own 1 0 0 (a.length+b.length)),(6,.p (.int .i64 i)),(7,.p (.int .u64 x.2.1)),(8,.p (.int .i64 x.1))] [(1,⟨1,avs x.2.2⟩)])
   (I:=fun x=>x.2.2.length=a.length+b.length/\x.1<=b.length/\x.2.1<4294967296/\x.2.2.getD (i+b.length) 0=0/\val x.2.2+4294967296^i*4294967296^x.1*x.2.1=val (a.take i)*val b+4294967296^i*(a.getD i 0).toNat*val (b.take x.1)) (m:=fun x=>b.length - x.1) (0,0,out)
   (Weak.to [0,1,5,6,7,8] [((1,0),1)] (by simp [go_sem])) ⟨by simp [h1],by simp,by simp,?_,by simp [h3]⟩ ?_
  ·simp only
   refine zji ?_
   rw [h3,Nat.pow_add]
   have q1:val (a.take i)<4294967296^i:=Nat.lt_of_lt_of_le (zb1 _) (Nat.pow_le_pow_right (by omega) (by simp; omega))
   exact Nat.mul_lt_mul'' q1 (zb1 b)
  rintro ⟨j,sum,o2⟩ ⟨k1,k2,k3,k5,k4⟩ R2 hn2 hr2 hx2
  simp only at k1 k2 k3 k4 k5
  simp [g.ny,go_sem]
  have ei1:=i64s i (by omega)
  refine ⟨fun g=>?_,fun g=>?_⟩
  ·have ew:IntKind.i64.wrap ((i:Int)+j)=((i+j:Nat):Int):=i64w (by omega) (by omega)
   have e1:=i64s j (by omega)
   rw [ew,e1,Int.toNat_natCast]
   refine zae (by omega) (zae (by omega) ⟨⟨by omega,by omega,by omega⟩,zae (by omega) ⟨⟨by omega,by omega,by omega⟩,zae (by omega) ?_⟩⟩)
   have t1:=zby b j
   have u0:=za1 a[i]
   have u1:=za1 b[j]
   have u2:=za1 o2[i+j]
   have vs:∀ z,val (o2.set (i+j) z)+4294967296^(i+j)*o2[i+j].toNat=val o2+4294967296^(i+j)*z.toNat:=fun z=>by
    have:=zna o2 (i+j) z (by omega)
    simpa only [List.getD_eq_getElem?_getD,List.getElem?_eq_getElem (show i+j<o2.length by omega),Option.getD_some] using this
   have ga:(a.getD i 0)=a[i]:=by simp [List.getElem?_eq_getElem h]
   have gb:(b.getD j 0)=b[j]:=by simp [List.getElem?_eq_getElem g]
   rw [gb] at t1
   rw [ga] at k4
   generalize hx1:a[i].toNat=x at u0 k4 ⊢
   generalize b[j].toNat=y at t1 u1 ⊢
   generalize o2[i+j].toNat=o at u2 vs ⊢
   have hxy:x*y<=4294967295*4294967295:=Nat.mul_le_mul (by omega) (by omega)
   obtain ⟨z,hz⟩:∃ z:UInt32,z.toNat=(sum+(o+x*y)) % 4294967296:=⟨_,zau _⟩
   have e2:((x:Int)*y+o+sum) % 18446744073709551616 / 4294967296=(((sum+(o+x*y)) / 4294967296:Nat):Int):=by
    have:((x:Int)*y)=((x*y:Nat):Int):=by simp
    rw [this]; omega
   have e3:((x:Int)*y+o+sum) % 4294967296=(z.toNat:Int):=by
    have:((x:Int)*y)=((x*y:Nat):Int):=by simp
    rw [this,hz]; omega
   rw [e2,e3]
   refine hn2 (j+1,(sum+(o+x*y)) / 4294967296,o2.set (i+j) z) _ (Weak.to [0,1,5,6,7,8] [((1,0),1)] (by simp [go_sem])) ⟨by simp [k1],by simp only; omega,by simp only; omega,?_,?_⟩ (by simp only; omega)
   ·simp only
    rw [List.getD_eq_getElem?_getD,List.getElem?_set_ne (by omega),<- List.getD_eq_getElem?_getD]; exact k5
   ·simp only
    have v:=vs z
    rw [hz,Nat.pow_add] at v
    rw [t1,Nat.pow_succ,ga,hx1]
    have e4:=Nat.div_add_mod (sum+(o+x*y)) 4294967296
    exact zl9 v k4 e4
  ·refine hx2 _ _ ?_
   have hj:j=b.length:=by omega
   subst hj
   have ew:IntKind.i64.wrap ((i:Int)+b.length)=((i+b.length:Nat):Int):=i64w (by omega) (by omega)
   simp [ew,ei1,go_sem]
   have ew2:((i:Int)+b.length).toNat=i+b.length:=by omega
   rw [ew2]
   obtain ⟨z,hz⟩:∃ z:UInt32,z.toNat=sum:=⟨UInt32.ofNat sum,by rw [zau]; omega⟩
   have e3:(sum:Int) % 4294967296=(z.toNat:Int):=by rw [hz]; omega
   rw [e3]
   refine ⟨⟨by omega,by omega,by omega⟩,zae (by omega) ?_⟩
   refine hn (i+1,o2.set (i+b.length) z) _ (Weak.to [0,1,5,6] [((1,0),1)] (by simp [go_sem])) ⟨by simp [k1],by simp only; omega,?_⟩ (by simp only; omega)
   simp only
   have v:=zna o2 (i+b.length) z (by omega)
   rw [k5,hz,Nat.pow_add] at v
   rw [List.take_length] at k4
   rw [zby,Nat.add_mul]
   simp only [UInt32.toNat_zero,Nat.mul_zero,Nat.add_zero] at v
   rw [v,k4]
 ·refine hx _ _ ?_
  simp [go_sem]
  refine zab (zj7 out) (zbz (zcz rfl rfl (by omega)) zcj) ?_
  simp [go_sem]
  have:i=a.length:=by omega
  subst this
  rw [h3,List.take_length]
end Go.Ab
namespace Go.Ab
open Enc (enc)
theorem zlj (a b:List UInt32) (hl:a.length<=4194304) (hl2:b.length<=4194304) (hb:val b≠0) (hcb:zbe b):Sp P F.eq [.sl (ens a),.sl (ens b)] (.pure (.tup [.sl (ens (lb (val a / val b))),.sl (ens (lb (val a % val b)))])):=by
 refine Sp.vz c.eq fun _=>?_
 have e0:IntKind.i64.wrap (32*(a.length:Int))=32*(a.length:Int):=i64w (by omega) (by omega)
 have e1:IntKind.i64.wrap (32*(a.length:Int) - 1)=32*(a.length:Int) - 1:=i64w (by omega) (by omega)
 simp [g.eq,e0,e1,go_sem]
 refine ⟨by omega,zai (S:=fun x:Nat × Nat × List UInt32=>mkSt [(0,.p (.sl (ens a))),(1,.p (.sl (ens b))),(6,.own 1 0 0 a.length),(7,.p (.sl (ens (lb x.2.1)))),(8,.p (.int .i64 ((x.1:Int) - 1)))] [(1,⟨1,avs x.2.2⟩)])
  (I:=fun x=>x.2.2.length=a.length/\x.1<=32*a.length/\x.2.1<val b/\∃ Q,val x.2.2=2^x.1*Q/\val a / 2^x.1=Q*val b+x.2.1) (m:=fun x=>x.1) (32*a.length,0,List.replicate a.length 0)
  ((Weak.freeze (t:=7) rfl).trans (Weak.to [0,1,6,7,8] [((11,0),1)] (by simp [go_sem]))) ⟨by simp,by simp,by simp; omega,0,by simp [zdt],?_⟩ ?_⟩
 ·simp only [Nat.zero_mul,Nat.add_zero]
  rw [Nat.pow_mul]
  exact Nat.div_eq_of_lt (zb1 a)
 rintro ⟨k,R,q⟩ ⟨h1,h2,h3,Q,h4,h5⟩ X hn hr hx
 simp only at h1 h2 h3 h4 h5
 have hRl:=Nat.le_trans (zat (Nat.lt_trans h3 (zb1 b))) hl2
 rcases k with _|i
 ·simp [g.mu,go_sem]
  refine hx _ _ ?_
  simp [go_sem]
  refine zab (zj7 q) (zbz (zcz rfl (by simp) (by omega)) zcj) ?_
  simp [go_sem]
  simp only [Nat.pow_zero,Nat.one_mul,Nat.div_one] at h4 h5
  have q1:val a / val b=val q:=by rw [h5,h4,Nat.mul_comm,Nat.mul_add_div (by omega),Nat.div_eq_of_lt h3]; omega
  have q2:val a % val b=R:=by rw [h5,Nat.mul_comm,Nat.mul_add_mod,Nat.mod_eq_of_lt h3]
  rw [q1,q2]; exact ⟨rfl,rfl⟩
 ·simp [g.mu,go_sem]
  refine zab (zns (lb R) (lb R) (by omega) (by omega)) rfl ?_
  simp [go_sem]
  have hw:IntKind.i64.wrap ((i:Int) / 32)=((i / 32:Nat):Int):=by rw [i64w (by omega) (by omega)]; omega
  have hm:(i:Int).tmod 32=((i % 32:Nat):Int):=z0b i 32
  have hm2:((i % 32:Nat):Int) % 18446744073709551616=((i % 32:Nat):Int):=by omega
  have hm3:((i % 32:Nat):Int).toNat.min 32=i % 32:=Nat.min_eq_left (by rw [Int.toNat_natCast]; omega)
  rw [hw,hm,hm2,hm3,Int.toNat_natCast]
  have hbd:=zzs a i
  have hhs:=zyl (val a) i
  have hoq:=z7v h4 (by omega)
  have hil:i / 32<a.length:=by omega
  have ga:(a.getD (i / 32) 0)=a[i / 32]:=by simp [List.getElem?_eq_getElem hil]
  rw [ga] at hbd
  refine zae hil ⟨by omega,by omega,?_⟩
  have hxl:=za1 a[i / 32]
  generalize a[i / 32]=x at hbd hxl ⊢
  have he:((x.toNat:Int) / 2^(i % 32))=((x.toNat / 2^(i % 32):Nat):Int):=by simp
  have hal:=z2v (x:=x.toNat / 2^(i % 32)) (y:=1) (Nat.lt_of_le_of_lt (Nat.div_le_self _ _) hxl) (by omega)
  rw [Nat.and_one_is_mod,show ((1:Nat):Int)=1 from rfl] at hal
  rw [he,hal,<- hbd]
  have hk1:IntKind.i64.wrap ((i:Int) - 1)=(i:Int) - 1:=i64w (by omega) (by omega)
  have hbit:(val a / 2^i % 2=0)\/(val a / 2^i % 2=1):=by omega
  refine ⟨fun hb1=>?_,fun hb0=>?_⟩
  ·refine zab (zns (lb (R+R)) [1] (by have:=zim (m:=R) (n:=R) hRl hRl; omega) (by simp)) (zbz rfl (zbz (zcz rfl (by simp [go_sem]) (by simp)) zcj)) ?_
   obtain ⟨R2,hR2⟩:∃ R2,R+R+1=R2:=⟨_,rfl⟩
   have hB:val a / 2^i % 2=1:=by omega
   simp [zh9,hR2,go_sem]
   have hR2l:(lb R2).length<=4194305:=by
    have:=zim hRl hRl
    have:=zim (m:=R+R) (n:=1) (a:=4194305) (by omega) (by rw [zk1]; simp)
    first|(rw [<- hR2]; have h:=zat (n:=R+R+1) (k:=b.length+1) (by have:=zb1 b; rw [Nat.pow_succ]; omega); omega)|(rw [<- hR2]; omega)
   refine zab (ziu (lb R2) b (by omega) (by omega) (zbj _) hcb) rfl ?_
   simp [zc2,zgt,go_sem]
   refine ⟨fun hge=>?_,fun hlt=>?_⟩
   ·refine zab (zhv (lb R2) b (by omega) (by simpa using hge)) rfl ?_
    simp [go_sem]
    rw [hw,hm,hm2,hm3,Int.toNat_natCast,hk1]
    have hiq:i / 32<q.length:=by omega
    have gq:(q.getD (i / 32) 0)=q[i / 32]:=by simp [List.getElem?_eq_getElem hiq]
    rw [gq] at hoq
    obtain ⟨z,hz⟩:∃ z:UInt32,z.toNat=q[i / 32].toNat ||| 2^(i % 32):=⟨UInt32.ofNat _,by rw [zau,Nat.mod_eq_of_lt hoq.1]⟩
    have h2p:=zf2 (s:=i % 32) (Nat.mod_lt _ (by omega))
    have hpc:((2:Int)^(i % 32) % 4294967296)=((2^(i % 32):Nat):Int):=by
     have:((2:Int)^(i % 32))=((2^(i % 32):Nat):Int):=by simp
     rw [this]
     generalize 2^(i % 32)=p at h2p ⊢
     omega
    have ho:=zxh (x:=q[i / 32].toNat) (y:=2^(i % 32)) (za1 _) (by omega)
    rw [hpc]
    refine ⟨⟨by omega,by omega,by omega⟩,zae hiq ⟨by omega,⟨by omega,by omega,by omega⟩,zae hiq ?_⟩⟩
    rw [ho,<- hz]
    refine hn (i,R2 - val b,q.set (i / 32) z) _ (Weak.to [0,1,6,7,8] [((1,0),1)] (by simp [go_sem])) ⟨by simp [h1],by simp only; omega,by simp only; omega,2*Q+1,?_,?_⟩ (by simp)
    ·simp only; exact hoq.2 z hz
    ·simp only; rw [hhs,h5,hB,Nat.add_mul,Nat.mul_assoc,Nat.mul_add]; omega
   ·refine hn (i,R2,q) _ (Weak.to [0,1,6,7,8] [((1,0),1)] (by simp [hk1,go_sem])) ⟨h1,by simp only; omega,hlt,2*Q,?_,?_⟩ (by simp)
    ·simp only; rw [h4,Nat.pow_succ,Nat.mul_assoc]
    ·simp only; rw [hhs,h5,hB,<- hR2,Nat.mul_add,Nat.mul_assoc]; omega
  ·obtain ⟨R2,hR2⟩:∃ R2,R+R=R2:=⟨_,rfl⟩
   have hB:val a / 2^i % 2=0:=by omega
   simp [hR2,go_sem]
   have hR2l:(lb R2).length<=4194305:=by
    have:=zim hRl hRl
    have:=zim (m:=R+R) (n:=1) (a:=4194305) (by omega) (by rw [zk1]; simp)
    first|(rw [<- hR2]; have h:=zat (n:=R+R+1) (k:=b.length+1) (by have:=zb1 b; rw [Nat.pow_succ]; omega); omega)|(rw [<- hR2]; omega)
   refine zab (ziu (lb R2) b (by omega) (by omega) (zbj _) hcb) rfl ?_
   simp [zc2,zgt,go_sem]
   refine ⟨fun hge=>?_,fun hlt=>?_⟩
   ·refine zab (zhv (lb R2) b (by omega) (by simpa using hge)) rfl ?_
    simp [go_sem]
    rw [hw,hm,hm2,hm3,Int.toNat_natCast,hk1]
    have hiq:i / 32<q.length:=by omega
    have gq:(q.getD (i / 32) 0)=q[i / 32]:=by simp [List.getElem?_eq_getElem hiq]
    rw [gq] at hoq
    obtain ⟨z,hz⟩:∃ z:UInt32,z.toNat=q[i / 32].toNat ||| 2^(i % 32):=⟨UInt32.ofNat _,by rw [zau,Nat.mod_eq_of_lt hoq.1]⟩
    have h2p:=zf2 (s:=i % 32) (Nat.mod_lt _ (by omega))
    have hpc:((2:Int)^(i % 32) % 4294967296)=((2^(i % 32):Nat):Int):=by
     have:((2:Int)^(i % 32))=((2^(i % 32):Nat):Int):=by simp
     rw [this]
     generalize 2^(i % 32)=p at h2p ⊢
     omega
    have ho:=zxh (x:=q[i / 32].toNat) (y:=2^(i % 32)) (za1 _) (by omega)
    rw [hpc]
    refine ⟨⟨by omega,by omega,by omega⟩,zae hiq ⟨by omega,⟨by omega,by omega,by omega⟩,zae hiq ?_⟩⟩
    rw [ho,<- hz]
    refine hn (i,R2 - val b,q.set (i / 32) z) _ (Weak.to [0,1,6,7,8] [((1,0),1)] (by simp [go_sem])) ⟨by simp [h1],by simp only; omega,by simp only; omega,2*Q+1,?_,?_⟩ (by simp)
    ·simp only; exact hoq.2 z hz
    ·simp only; rw [hhs,h5,hB,Nat.add_mul,Nat.mul_assoc,Nat.mul_add]; omega
   ·refine hn (i,R2,q) _ (Weak.to [0,1,6,7,8] [((1,0),1)] (by simp [hk1,go_sem])) ⟨h1,by simp only; omega,hlt,2*Q,?_,?_⟩ (by simp)
    ·simp only; rw [h4,Nat.pow_succ,Nat.mul_assoc]
    ·simp only; rw [hhs,h5,hB,<- hR2,Nat.mul_add,Nat.mul_assoc]; omega
end Go.Ab
namespace Go.Ab
open Enc (enc)
theorem zm5 (a b:List UInt32) (hl:a.length<=4194304) (hl2:b.length<=4194304) (ha:zbe a) (hb:zbe b):Sp P F.ef [.sl (ens a),.sl (ens b)] (.pure (.sl (ens (lb (Nat.gcd (val a) (val b)))))):=by
 refine Sp.vz c.ef fun _=>?_
 simp [g.ef,go_sem]
 refine zai (S:=fun x:List UInt32 × List UInt32=>mkSt [(0,.p (.sl (ens x.1))),(1,.p (.sl (ens x.2)))] []) (I:=fun x=>x.1.length<=4194304/\x.2.length<=4194304/\zbe x.1/\zbe x.2/\Nat.gcd (val x.1) (val x.2)=Nat.gcd (val a) (val b)) (m:=fun x=>val x.2) (a,b) (Weak.of (keep:=[0,1]) (ids:=[]) rfl) ⟨hl,hl2,ha,hb,rfl⟩ ?_
 rintro ⟨x,y⟩ ⟨h1,h2,h3,h4,h5⟩ R hn hr hx
 simp at h1 h2 h3 h4 h5
 simp [g.n9,go_sem]
 refine ⟨fun h=>?_,fun h=>hx _ _ ?_⟩
 ·have hy:val y≠0:=fun h0=>by rw [<- zb8 h4,h0] at h; simp at h
  refine zab (zlj x y h1 h2 hy h4) rfl ?_
  simp [go_sem]
  have hlt:=Nat.mod_lt (val x) (Nat.pos_of_ne_zero hy)
  have hlen:=zat (Nat.lt_trans hlt (zb1 y))
  refine hn (y,lb (val x % val y)) _ (Weak.of (keep:=[0,1]) (ids:=[]) rfl) ⟨h2,by simp only; omega,h4,zbj _,?_⟩ (by simpa using hlt)
  simp only [zl6]
  rw [<- h5,Nat.gcd_comm (val x),Nat.gcd_rec (val y) (val x),Nat.gcd_comm]
 ·subst h
  simp at h5
  simp [go_sem]
  rw [<- h5,zb8 h3]
theorem zt0 (x:GRat):Sp P F.ii [enc x] (.pure (.sl (ens (if x.den=[] then [(1:UInt32)] else x.den)))):=by
 refine Sp.vz c.ii fun _=>?_
 simp [g.ii,go_sem]
 refine ⟨fun h=>by simp [h,go_sem],fun h=>by simp [h]⟩
theorem zjq (f:Fr) (hd:f.d≠0) (hx:f.e.sm 4194304):Sp P F.d7 [.bool f.neg,.sl (ens (lb f.n)),.sl (ens (lb f.d))] (.pure (enc (rto f.v))):=by
 obtain ⟨h1,h2⟩:=hx
 simp only [Fr.e] at h1 h2
 refine Sp.vz c.d7 fun _=>?_
 simp [g.d7,go_sem]
 refine ⟨fun h=>?_,fun h=>?_⟩
 ·simp [zj5 h,zdv,go_sem]
 ·have hg:=Nat.gcd_pos_of_pos_left f.d (Nat.pos_of_ne_zero h)
  refine zab (zm5 _ _ h1 h2 (zbj _) (zbj _)) rfl ?_
  have hlg:(lb (Nat.gcd f.n f.d)).length<=4194304:=by
   refine Nat.le_trans (zat (n:=Nat.gcd f.n f.d) (k:=(lb f.n).length) ?_) h1
   exact Nat.lt_of_le_of_lt (Nat.gcd_le_left _ (Nat.pos_of_ne_zero h)) (zhc _)
  rw [zwu hd h]
  simp [go_sem]
  refine zab (zlj (lb f.n) (lb (Nat.gcd f.n f.d)) h1 hlg (by simp; omega) (zbj _)) rfl ?_
  simp [go_sem]
  refine zab (zlj (lb f.d) (lb (Nat.gcd f.n f.d)) h2 hlg (by simp; omega) (zbj _)) rfl ?_
  simp [go_sem]
  refine zab (zii _) rfl ?_
  have h1':(lb (f.d / Nat.gcd f.n f.d)=[1]) ↔ f.d / Nat.gcd f.n f.d=1:=⟨fun h=>by have:=congrArg val h; simpa using this,fun h=>by rw [h,zk1]⟩
  simp [h1',go_sem]
  refine ⟨fun h6=>?_,fun h6=>?_⟩<;>simp [h6,go_sem]
theorem zls (v:Int) (h1 : -9223372036854775808<=v) (h2:v<=9223372036854775807):Sp P F.g9 [.int .i64 v] (.pure (.int .u64 v.natAbs)):=by
 refine Sp.vz c.g9 fun _=>?_
 simp [g.g9,go_sem]
 refine ⟨fun h=>?_,fun h=>by omega⟩
 rw [i64w (n:=v+1) (by omega) (by omega),i64w (by omega) (by omega)]
 omega
theorem zdd {a:List UInt32} (h:0<a.length):(a[a.length - 1].toNat=0) ↔ ¬ zbe a:=by
 simp only [zbe,List.getLast?_eq_getElem?,List.getElem?_eq_getElem (show a.length - 1<a.length by omega)]
 simp
 exact ⟨fun h=>zg0 (by simpa using h),fun h=>by rw [h]; rfl⟩
theorem zzf (l:List UInt32) (h:zbe l):l=[1] ↔ val l=1:=⟨fun h=>by rw [h]; rfl,fun h0=>by rw [<- zb8 h,h0,zk1]⟩
theorem zvz (x:GRat) (hx:x.sm 4194304):Sp P F.bg [enc x] (.pure (.bool x.valid)):=by
 obtain ⟨h1,h2⟩:=hx
 have en:IntKind.i64.wrap ((x.num.length:Int) - 1)=(x.num.length:Int) - 1:=i64w (by omega) (by omega)
 have ed:IntKind.i64.wrap ((x.den.length:Int) - 1)=(x.den.length:Int) - 1:=i64w (by omega) (by omega)
 have en':((x.num.length:Int) - 1).toNat=x.num.length - 1:=by omega
 have ed':((x.den.length:Int) - 1).toNat=x.den.length - 1:=by omega
 refine Sp.vz c.bg fun _=>?_
 by_cases hn:x.num=[]
 ·by_cases hd:x.den=[]
  ·simp [g.bg,hn,hd,go_sem]
   refine zab (zii []) rfl ?_
   simp [hn,hd,go_sem]
   rw [zfu]
   refine ⟨fun h=>?_,fun h=>?_⟩<;>simp [GRat.valid,hn,hd,h,go_sem]
  ·have hdl:=List.length_pos_iff.2 hd
   simp [g.bg,hn,hdl,ed,ed',go_sem]
   refine zae (by omega) ⟨by omega,fun h3=>?_,fun h3=>?_⟩
   ·simp [GRat.valid,(zdd hdl).1 h3]
   ·have hc:zbe x.den:=by simpa using (mt (zdd hdl).2) h3
    refine zab (zii x.den) rfl ?_
    simp [hn,go_sem]
    refine ⟨fun h4=>by simp [GRat.valid,hn,hd],fun h4=>?_⟩
    rw [zfu]
    refine ⟨fun h=>?_,fun h=>?_⟩<;>simp [GRat.valid,hn,hd,h,go_sem]
 ·have hnl:=List.length_pos_iff.2 hn
  by_cases hd:x.den=[]
  ·simp [g.bg,hnl,hd,en,en',go_sem]
   refine zae (by omega) ⟨by omega,fun h3=>?_,fun h3=>?_⟩
   ·simp [GRat.valid,(zdd hnl).1 h3]
   ·have hc:zbe x.num:=by simpa using (mt (zdd hnl).2) h3
    refine zab (zii []) rfl ?_
    simp [hn,hd,go_sem]
    simp [GRat.valid,hn,hd,hc]
  ·have hdl:=List.length_pos_iff.2 hd
   simp [g.bg,hnl,hdl,en,en',ed,ed',go_sem]
   refine zae (by omega) ⟨by omega,fun h3=>?_,fun h3=>zae (by omega) ⟨by omega,fun h4=>?_,fun h4=>?_⟩⟩
   ·simp [GRat.valid,(zdd hnl).1 h3]
   ·simp [GRat.valid,(zdd hdl).1 h4]
   ·have hc:zbe x.num:=by simpa using (mt (zdd hnl).2) h3
    have hcd:zbe x.den:=by simpa using (mt (zdd hdl).2) h4
    refine zab (zii x.den) rfl ?_
    simp [hn,hd,go_sem]
    refine ⟨fun h5=>?_,fun h5=>?_⟩
    ·simp [GRat.valid,hn,hd,(zzf _ hcd).1 h5]
    ·refine zab (zm5 x.num x.den h1 h2 hc hcd) rfl ?_
     simp [go_sem]
     refine zab (zii _) rfl ?_
     have h1':(lb ((val x.num).gcd (val x.den))=[1]) ↔ (val x.num).gcd (val x.den)=1:=⟨fun h=>by have:=congrArg val h; simpa using this,fun h=>by rw [h,zk1]⟩
     have h5':¬ val x.den=1:=fun h=>h5 ((zzf _ hcd).2 h)
     simp [GRat.valid,hn,hd,hc,hcd,h1',h5',go_sem]
end Go.Ab
namespace Go.Ab
open Enc (enc)
theorem zjo (x:GRat) (hx:x.sm 4194304):Sp P F.ca [enc x] (.pure (enc (rto x.v))):=by
 refine Sp.vz c.ca fun _=>?_
 simp [g.ca,go_sem]
 refine zab (zvz x hx) rfl ?_
 simp [go_sem]
 rw [zfu]
 refine ⟨fun h=>?_,fun h=>?_⟩
 ·have:=hx.1
  have:=hx.2
  simp [znl h,go_sem]
  omega
 ·simp [zj4 h,zdv,go_sem]
theorem zsn (x:GRat) (hx:x.sm 4194304):Sp P F.dz [enc x] (.pure (.int .i64 (sgnR x.v))):=by
 refine Sp.vz c.dz fun _=>?_
 simp [g.dz,go_sem]
 refine zab (zjo x hx) rfl ?_
 have hz:x.v=0 ↔ x.v.num=0:=Rat.num_eq_zero.symm
 have hnn:0<=x.v ↔ 0<=x.v.num:=Rat.num_nonneg.symm
 simp [rto,sgnR,go_sem]
 rw [hnn]
 simp only [hz]
 refine ⟨fun h=>?_,fun h=>⟨fun h'=>?_,fun h'=>?_⟩⟩
 ·rw [if_neg (by omega),if_pos h]
 ·have h2:x.v.num≠0:=fun h=>by rw [h] at h'; simp at h'
  rw [if_neg h2,if_neg (by omega)]
 ·intro h2; exact absurd h' h2
theorem z4o (x:GRat) (hx:x.sm 4194304):Sp P F.ia [enc x] (.pure (enc (rto (-x.v)))):=by
 refine Sp.vz c.ia fun _=>?_
 simp [g.ia,go_sem]
 refine zab (zjo x hx) rfl ?_
 have hz:x.v=0 ↔ x.v.num=0:=Rat.num_eq_zero.symm
 simp [rto,go_sem]
 simp only [hz]
 refine ⟨fun h'=>?_,fun h'=>by omega⟩
 have h2:x.v.num≠0:=fun h=>by rw [h] at h'; simp at h'
 by_cases h:x.v.num<0
 ·have:¬ 0<x.v.num:=by omega
  simp [h,this]
 ·have:0<x.v.num:=by omega
  simp [h,this]
theorem z79 (q:Rat):(frq q).e=⟨(rto q).neg,(rto q).num,if (rto q).den=[] then [1] else (rto q).den⟩:=by
 have:=zlb (zd5 q)
 rw [zg3] at this; exact this
theorem z54 (x y:GRat) (hx:x.sm 1048576) (hy:y.sm 1048576):Sp P F.gp [enc x,enc y] (.pure (enc (rto (x.v+y.v)))):=by
 have h1:=zfr hx (by omega)
 have h2:=zfr hy (by omega)
 have h3:=zlf h1 h2
 have h4:(fadd (frq x.v) (frq y.v)).d≠0:=zp8 (ze2 _) (ze2 _)
 have hv:=zp7 (f:=frq x.v) (g:=frq y.v) (ze2 _) (ze2 _)
 rw [zoh,zoh] at hv
 have ex:=z79 x.v
 have ey:=z79 y.v
 have m1:=zfi h1.1 h2.2
 have m2:=zfi h2.1 h1.2
 have m3:=zfi h1.2 h2.2
 simp only [Fr.e,GRat.mk.injEq] at ex ey
 obtain ⟨ex1,ex2,ex3⟩:=ex
 obtain ⟨ey1,ey2,ey3⟩:=ey
 obtain ⟨a1,a2⟩:=h1
 obtain ⟨b1,b2⟩:=h2
 simp only [Fr.e] at a1 a2 b1 b2
 refine Sp.vz c.gp fun _=>?_
 simp [g.gp,go_sem]
 refine zah (zjo x (hx.mono (by omega))) rfl ?_
 simp [go_sem]
 refine zah (zjo y (hy.mono (by omega))) rfl ?_
 simp [go_sem]
 refine zah (zt0 (rto y.v)) rfl ?_
 simp only [<- ex1,<- ex2,<- ex3,<- ey1,<- ey2,<- ey3]
 simp [go_sem]
 refine zah (zj8 _ _ (by omega) (by omega)) rfl ?_
 simp [go_sem]
 refine zah (zt0 (rto x.v)) rfl ?_
 simp only [<- ex1,<- ex2,<- ex3,<- ey1,<- ey2,<- ey3]
 simp [go_sem]
 refine zah (zj8 _ _ (by omega) (by omega)) rfl ?_
 simp [go_sem]
 refine zah (zt0 (rto x.v)) rfl ?_
 simp only [<- ex1,<- ex2,<- ex3,<- ey1,<- ey2,<- ey3]
 simp [go_sem]
 refine zah (zt0 (rto y.v)) rfl ?_
 simp only [<- ex1,<- ex2,<- ex3,<- ey1,<- ey2,<- ey3]
 simp [go_sem]
 refine zah (zj8 _ _ (by omega) (by omega)) rfl ?_
 simp [go_sem]
 generalize frq x.v=u at *
 generalize frq y.v=w at *
 refine ⟨fun h=>?_,fun h=>?_⟩
 ·refine zah (zns (lb (u.n*w.d)) (lb (w.n*u.d)) (by omega) (by omega)) rfl ?_
  simp [go_sem]
  refine zah (zjq (fadd u w) h4 (h3.mono (by omega))) ?_ ?_
  ·simp [h,fadd,go_sem]
  ·simp [hv,go_sem]
 ·refine zab (ziu (lb (u.n*w.d)) (lb (w.n*u.d)) (by omega) (by omega) (zbj _) (zbj _)) rfl ?_
  simp [zc2,zgt,go_sem]
  refine ⟨fun h'=>?_,fun h'=>?_⟩
  ·refine zah (zhv (lb (u.n*w.d)) (lb (w.n*u.d)) (by omega) (by simpa using h')) rfl ?_
   simp [go_sem]
   refine zah (zjq (fadd u w) h4 (h3.mono (by omega))) ?_ ?_
   ·simp [h,h',fadd,go_sem]
   ·simp [hv,go_sem]
  ·have h'':¬ (w.n*u.d<=u.n*w.d):=Nat.not_le.2 h'
   refine zah (zhv (lb (w.n*u.d)) (lb (u.n*w.d)) (by omega) (by simp; omega)) rfl ?_
   simp [go_sem]
   refine zah (zjq (fadd u w) h4 (h3.mono (by omega))) ?_ ?_
   ·simp [h,h'',fadd,go_sem]
   ·simp [hv,go_sem]
theorem zuk {x y:GRat} {n:Nat} (hx:x.sm n) (hy:y.sm n) (hn:1<=n):(rto (x.v+y.v)).sm (n+n+1):=by
 have e:=zp7 (f:=frq x.v) (g:=frq y.v) (ze2 _) (ze2 _)
 rw [zoh,zoh] at e
 rw [<- e]
 exact zkf (zp8 (ze2 _) (ze2 _)) (zlf (zfr hx hn) (zfr hy hn))
theorem zmd {x:GRat} {n:Nat} (hx:x.sm n) (hn:1<=n):(rto (-x.v)).sm n:=by
 have e:=zyt (frq x.v)
 rw [zoh] at e
 rw [<- e]
 exact zkf (f:=fneg (frq x.v)) (ze2 x.v) (zfr hx hn)
theorem z3u (x y:GRat) (hx:x.sm 1048576) (hy:y.sm 1048576):Sp P F.go [enc x,enc y] (.pure (enc (rto (x.v - y.v)))):=by
 refine Sp.vz c.go fun _=>?_
 simp [g.go,go_sem]
 refine zah (z4o y (hy.mono (by omega))) rfl ?_
 simp [go_sem]
 refine zah (z54 x (rto (-y.v)) hx (zmd hy (by omega))) rfl ?_
 simp [zg3,Rat.sub_eq_add_neg,go_sem]
theorem zry (x y:GRat) (hx:x.sm 1048576) (hy:y.sm 1048576):Sp P F.dv [enc x,enc y] (.pure (.int .i64 (sgnR (x.v - y.v)))):=by
 have h:=zuk hx (zmd hy (by omega)) (by omega)
 rw [zg3,<- Rat.sub_eq_add_neg] at h
 refine Sp.vz c.dv fun _=>?_
 simp [g.dv,go_sem]
 refine zab (z3u x y hx hy) rfl ?_
 simp [go_sem]
 refine zab (zsn (rto (x.v - y.v)) (h.mono (by omega))) rfl ?_
 simp [zg3,go_sem]
deriving instance DecidableEq for GRat
theorem z1f (a b:Int) (ha : -9223372036854775808<=a/\a<=9223372036854775807) (hb : -9223372036854775808<=b/\b<=9223372036854775807) :
  Sp P F.b8 [.int .i64 a,.int .i64 b] (.pure (.tup [enc (if b=0 then rto 0 else rto (Rat.divInt a b)),.int .i64 (if b=0 then 11 else 0)])):=by
 have hal:=zat (n:=a.natAbs) (k:=2) (by omega)
 have hbl:=zat (n:=b.natAbs) (k:=2) (by omega)
 refine Sp.vz c.b8 fun _=>?_
 simp [g.b8,go_sem]
 refine ⟨fun h=>by simp [h,zdv,go_sem],fun h=>?_⟩
 refine zab (zls a ha.1 ha.2) rfl ?_
 simp [go_sem]
 refine zab (zmm a.natAbs (by omega)) (by simp [go_sem]) ?_
 simp [go_sem]
 refine zab (zls b hb.1 hb.2) rfl ?_
 simp [go_sem]
 refine zab (zmm b.natAbs (by omega)) (by simp [go_sem]) ?_
 simp [go_sem]
 refine zab (zjq ⟨decide (a<0) != decide (b<0),a.natAbs,b.natAbs⟩ (by simpa using h) ⟨by simp only [Fr.e]; omega,by simp only [Fr.e]; omega⟩) ?_ ?_
 ·simp [Fr.e,bne,go_sem]
 ·simp [zqc,h,go_sem]
end Go.Ab
namespace Go.Ab
open Enc (enc)
theorem zbm {P:Program} {N:Nat} {Q:Exit->St->Prop} {b:GC} {ks:List Kt} {st:St}
  (h:∀ R:Exit->St->Prop,(∀ s,vL P N Q b ks s->R .normal s)->(∀ s,Q .ret s->R .ret s)->(∀ id s,zd0 P N Q (zbh id ks) id s->R (.exit id) s)->vm P N R [.code b] st):vL P N Q b ks st:=by
 obtain ⟨ex,s,r1,r2⟩:=zcv (P:=P) (N:=N) _ (Nat.le_refl _) (h (fun ex s=>(ex=.normal->vL P N Q b ks s)/\(ex ≠ .normal->semX P N Q ks ex s)) (fun s h=>⟨fun _=>h,fun h=>absurd rfl h⟩)
  (fun s h=>⟨fun h=>(by cases h),fun _=>zdu h⟩) (fun id s h=>⟨fun h=>(by cases h),fun _=>zn7 (by simp) h (.inr ⟨id,rfl⟩)⟩))
 by_cases he:ex=.normal
 ·subst he
  obtain ⟨ex,s2,q1,q2⟩:=r2.1 rfl
  exact ⟨ex,s2,.next _ _ _ _ r1 q1,q2⟩
 ·exact ⟨ex,s,.out _ _ _ r1 he,r2.2 he⟩
structure Ex where
 a:Int
 b:Int
 c:Int
 deriving DecidableEq
instance:Enc Ex:=⟨fun x=>.agg [.int .i64 x.a,.int .i64 x.b,.int .i64 x.c],3,by decide,fun _=>rfl⟩
@[go_sem] theorem ycq (x:Ex):enc x=.agg [.int .i64 x.a,.int .i64 x.b,.int .i64 x.c]:=rfl
@[go_sem] theorem z9o:Enc.sz Ex=3:=rfl
structure GMono where
 e:Ex
 coef:GRat
 deriving DecidableEq
instance:Enc GMono:=⟨fun x=>.agg [.int .i64 x.e.a,.int .i64 x.e.b,.int .i64 x.e.c,.bool x.coef.neg,.sl (ens x.coef.num),.sl (ens x.coef.den)],6,by decide,fun _=>rfl⟩
@[go_sem] theorem z9t (x:GMono):enc x=.agg [.int .i64 x.e.a,.int .i64 x.e.b,.int .i64 x.e.c,.bool x.coef.neg,.sl (ens x.coef.num),.sl (ens x.coef.den)]:=rfl
@[go_sem] theorem z6i:Enc.sz GMono=6:=rfl
def Ex.cmp (x y:Ex):Int:=if x.a<y.a then -1 else if y.a<x.a then 1 else if x.b<y.b then -1 else if y.b<x.b then 1 else if x.c<y.c then -1 else if y.c<x.c then 1 else 0
def Ex.ok (x:Ex):Bool:=decide (0<=x.a/\x.a<=5/\0<=x.b/\x.b<=5/\0<=x.c/\x.c<=5/\x.a+x.b+x.c<=5)
@[go_sem] theorem w0:IntKind.i64.wrap 0=0:=by decide
@[go_sem] theorem w1:IntKind.i64.wrap 1=1:=by decide
@[go_sem] theorem w2:IntKind.i64.wrap 2=2:=by decide
@[go_sem] theorem w3:IntKind.i64.wrap 3=3:=by decide
@[go_sem] theorem w4:IntKind.i64.wrap 4=4:=by decide
def GMono.ok (m:GMono):Bool:=m.e.ok&&m.coef.valid&&decide (m.coef.v≠0)
def PVal (p:List GMono):Prop:=∀ i,(h:i<p.length)->p[i].ok=true/\(0<i->p[i].e.cmp (p[i - 1]'(by omega)).e<0)
noncomputable instance (p:List GMono):Decidable (PVal p):=Classical.propDecidable _
noncomputable def pv (p:List GMono):List GMono:=if PVal p then p else []
def psm (p:List GMono) (n:Nat):Prop:=∀ m∈p,m.coef.sm n
theorem zkc (q:Rat):sgnR q=0 ↔ q=0:=by
 have hz:q=0 ↔ q.num=0:=Rat.num_eq_zero.symm
 unfold sgnR; rw [hz]; (repeat' split)<;>omega
end Go.Ab
namespace Go.Ab
open Enc (enc)
theorem psm.mono {p:List GMono} {m n:Nat} (h:psm p m) (k:m<=n):psm p n:=fun x hx=>(h x hx).mono k
theorem z2z (p:List GMono):PVal (pv p):=by
 unfold pv; split
 ·assumption
 ·intro i h; simp at h
theorem z20 {p:List GMono} {n:Nat} (h:psm p n):psm (pv p) n:=by
 unfold pv; split
 ·exact h
 ·intro x hx; simp at hx
theorem z21 (p:List GMono):(pv p).length<=p.length:=by unfold pv; split<;>simp
theorem z7t {p:List GMono} (h:PVal p):pv p=p:=by simp [pv,h]
def pat:List GMono->Ex->Nat
 | [],_=>0
 | m::p,e=>if 0<m.e.cmp e then pat p e+1 else 0
def pput (p:List GMono) (e:Ex) (q:Rat):List GMono :=
 if e.ok=false\/q=0 then p else
 match p[pat p e]? with
 | none=>p++[⟨e,rto q⟩]
 | some m=>if m.e=e then (if q+m.coef.v=0 then p.take (pat p e)++p.drop (pat p e+1) else p.take (pat p e)++⟨e,rto (q+m.coef.v)⟩::p.drop (pat p e+1)) else p.take (pat p e)++⟨e,rto q⟩::p.drop (pat p e)
attribute [local go_sem] zal Opd.slots
end Go.Ab
namespace Go.Ab
open Enc (enc)
def qb (D B:Nat) (q:Rat):Prop:=∃ a:Int,q=mkRat a D/\a.natAbs<=B
theorem z7m {D B B':Nat} {x y:Rat} (hx:qb D B x) (hy:qb D B' y) (hD:D≠0):qb D (B+B') (x+y):=by
 obtain ⟨a,rfl,h1⟩:=hx
 obtain ⟨b,rfl,h2⟩:=hy
 refine ⟨a+b,?_,by omega⟩
 rw [Rat.mkRat_add_mkRat _ _ hD hD,<- Int.add_mul,Rat.mkRat_mul_right hD]
theorem zsr {D B:Nat} {x:Rat} (k:Nat) (hk:k≠0) (hx:qb D B x):qb (D*k) (B*k) x:=by
 obtain ⟨a,rfl,h1⟩:=hx
 refine ⟨a*k,?_,?_⟩
 ·rw [Rat.mkRat_mul_right hk]
 ·rw [Int.natAbs_mul]; exact Nat.mul_le_mul h1 (by simp)
theorem ya3 {D B n:Nat} {x:Rat} (h:qb D B x) (hD:D≠0) (h1:D<4294967296^n) (h2:B<4294967296^n):(rto x).sm n:=by
 obtain ⟨a,rfl,h⟩:=h
 have e1:(mkRat a D).num.natAbs<=B:=by
  rw [Rat.num_mkRat,if_neg hD]
  exact Nat.le_trans (Int.natAbs_ediv_le_natAbs _ _) h
 have e2:(mkRat a D).den<=D:=by
  rw [Rat.den_mkRat,if_neg hD]; exact Nat.div_le_self _ _
 refine ⟨zat (Nat.lt_of_le_of_lt e1 h2),?_⟩
 show (if (mkRat a D).den=1 then [] else lb (mkRat a D).den).length<=n
 split
 ·simp
 ·exact zat (Nat.lt_of_le_of_lt e2 h1)
def Ex.code (e:Ex):Int:=e.a*36+e.b*6+e.c
theorem Ex.ok_iff {e:Ex}:e.ok=true ↔ (0<=e.a/\e.a<=5/\0<=e.b/\e.b<=5/\0<=e.c/\e.c<=5/\e.a+e.b+e.c<=5):=by simp [Ex.ok]
theorem Ex.code_lt {e:Ex} (h:e.ok=true):0<=e.code/\e.code<216:=by rw [Ex.ok_iff] at h; unfold Ex.code; omega
theorem Ex.cmp_neg {x y:Ex} (hx:x.ok=true) (hy:y.ok=true):x.cmp y<0 ↔ x.code<y.code:=by
 rw [Ex.ok_iff] at hx hy; unfold Ex.cmp Ex.code; (repeat' split)<;>omega
theorem Ex.cmp_pos {x y:Ex} (hx:x.ok=true) (hy:y.ok=true):0<x.cmp y ↔ y.code<x.code:=by
 rw [Ex.ok_iff] at hx hy; unfold Ex.cmp Ex.code; (repeat' split)<;>omega
theorem Ex.code_inj {x y:Ex} (hx:x.ok=true) (hy:y.ok=true):x.code=y.code ↔ x=y:=by
 rw [Ex.ok_iff] at hx hy; unfold Ex.code; obtain ⟨a,b,c⟩:=x; obtain ⟨a',b',c'⟩:=y
 simp only [Ex.mk.injEq] at *; omega
theorem zan {p:List GMono}:PVal p ↔ (∀ m∈p,m.ok=true)/\p.Pairwise (fun x y=>y.e.code<x.e.code):=by
 have ok_e:∀ {m:GMono},m.ok=true->m.e.ok=true:=fun h=>by simp [GMono.ok] at h; exact h.1.1
 constructor
 ·intro h
  have h1:∀ m∈p,m.ok=true:=fun m hm=>by
   obtain ⟨i,hi,rfl⟩:=List.getElem_of_mem hm; exact (h i hi).1
  refine ⟨h1,List.pairwise_iff_getElem.2 fun i j hi hj hij=>?_⟩
  obtain ⟨d,rfl⟩:∃ d,j=i+1+d:=⟨j - i - 1,by omega⟩
  clear hij
  induction d with
  | zero =>
   have:=(h (i+1) hj).2 (by omega)
   exact (Ex.cmp_neg (ok_e (h1 _ (List.getElem_mem _))) (ok_e (h1 _ (List.getElem_mem _)))).1 this
  | succ d ih =>
   have h2:=ih (by omega)
   have h3:=(h (i+1+(d+1)) hj).2 (by omega)
   have h4:=(Ex.cmp_neg (ok_e (h1 _ (List.getElem_mem _))) (ok_e (h1 _ (List.getElem_mem _)))).1 h3
   exact Int.lt_trans h4 h2
 ·rintro ⟨h1,h2⟩ i hi
  refine ⟨h1 _ (List.getElem_mem hi),fun h0=>?_⟩
  refine (Ex.cmp_neg (ok_e (h1 _ (List.getElem_mem _))) (ok_e (h1 _ (List.getElem_mem _)))).2 ?_
  exact List.pairwise_iff_getElem.1 h2 (i - 1) i (by omega) hi (by omega)
def pc:List GMono->Ex->Rat
 | [],_=>0
 | m::p,e=>(if m.e=e then m.coef.v else 0)+pc p e
theorem zkm (p q:List GMono) (e:Ex):pc (p++q) e=pc p e+pc q e:=by
 induction p with
 | nil=>simp [pc,Rat.zero_add]
 | cons m p ih=>simp [pc,ih,Rat.add_assoc]
theorem zkl {p:List GMono} {e:Ex} (h:∀ m∈p,m.e≠e):pc p e=0:=by
 induction p with
 | nil=>rfl
 | cons m p ih=>simp only [pc,if_neg (h m (by simp)),Rat.zero_add]; exact ih fun x hx=>h x (by simp [hx])
theorem zg7 {m:GMono} {p:List GMono} (h:PVal (m::p)):pc (m::p) m.e=m.coef.v:=by
 have:=zan.1 h
 simp only [pc,if_true]
 rw [zkl,Rat.add_zero]
 intro x hx he
 have:=(List.pairwise_cons.1 this.2).1 x hx
 rw [he] at this; omega
theorem PVal.tail {m:GMono} {p:List GMono} (h:PVal (m::p)):PVal p:=by
 have:=zan.1 h
 exact zan.2 ⟨fun x hx=>this.1 x (by simp [hx]),(List.pairwise_cons.1 this.2).2⟩
theorem znp {p q:List GMono} (hp:PVal p) (hq:PVal q) (h:∀ e,pc p e=pc q e):p=q:=by
 have okm:∀ {m:GMono},m.ok=true->m.e.ok=true/\m.coef.valid=true/\m.coef.v≠0:=fun h=>by simp [GMono.ok] at h; exact ⟨h.1.1,h.1.2,h.2⟩
 induction p generalizing q with
 | nil =>
  cases q with
  | nil=>rfl
  | cons m q =>
   have:=h m.e
   rw [zg7 hq] at this
   exact absurd this.symm (okm ((zan.1 hq).1 m (by simp))).2.2
 | cons m p ih =>
  cases q with
  | nil =>
   have:=h m.e
   rw [zg7 hp] at this
   exact absurd this (okm ((zan.1 hp).1 m (by simp))).2.2
  | cons m' q =>
   have o1:=okm ((zan.1 hp).1 m (by simp))
   have o2:=okm ((zan.1 hq).1 m' (by simp))
   have he:m.e=m'.e:=by
    rcases Int.lt_trichotomy m.e.code m'.e.code with h1|h1|h1
    ·have:=h m'.e
     rw [zg7 hq,zkl] at this
     ·exact absurd this.symm o2.2.2
     ·intro x hx hxe
      rcases List.mem_cons.1 hx with rfl|hx
      ·rw [hxe] at h1; omega
      ·have:=(List.pairwise_cons.1 (zan.1 hp).2).1 x hx; rw [hxe] at this; omega
    ·exact (Ex.code_inj o1.1 o2.1).1 h1
    ·have:=h m.e
     rw [zg7 hp,zkl] at this
     ·exact absurd this o1.2.2
     ·intro x hx hxe
      rcases List.mem_cons.1 hx with rfl|hx
      ·rw [hxe] at h1; omega
      ·have:=(List.pairwise_cons.1 (zan.1 hq).2).1 x hx; rw [hxe] at this; omega
   have hc:m.coef=m'.coef:=by
    have:=h m.e
    rw [zg7 hp,he,zg7 hq] at this
    rw [<- znl o1.2.1,<- znl o2.2.1,this]
   have hm:m=m':=by cases m; cases m'; simp at he hc; simp [he,hc]
   subst hm
   congr 1
   refine ih hp.tail hq.tail fun e=>?_
   have:=h e
   simp only [pc] at this
   exact Rat.add_left_cancel _ this
end Go.Ab
namespace Go.Ab
open Enc (enc)
def pins:List GMono->Ex->Rat->List GMono
 | [],e,q=>[⟨e,rto q⟩]
 | m::p,e,q=>if 0<m.e.cmp e then m::pins p e q else if m.e=e then (if q+m.coef.v=0 then p else ⟨e,rto (q+m.coef.v)⟩::p) else ⟨e,rto q⟩::m::p
theorem zki (p:List GMono) (e:Ex) (q:Rat):pput p e q=if e.ok=false\/q=0 then p else pins p e q:=by
 unfold pput
 split
 ·rfl
 ·rename_i h
  induction p with
  | nil=>simp [pat,pins]
  | cons m p ih =>
   by_cases h1:0<m.e.cmp e
   ·simp only [pat,if_pos h1,List.getElem?_cons_succ,List.take_succ_cons,List.drop_succ_cons,pins,<- ih]
    cases p[pat p e]? with
    | none=>simp
    | some x=>simp only [List.cons_append]; (repeat' split)<;>rfl
   ·simp [pat,pins,h1]
theorem GMono.ok_iff {m:GMono}:m.ok=true ↔ m.e.ok=true/\m.coef.valid=true/\m.coef.v≠0:=by simp [GMono.ok,and_assoc]
theorem z01 {p:List GMono} {e:Ex} {q:Rat} {x:GMono} (h:x∈pins p e q):x.e=e\/x∈p:=by
 induction p with
 | nil=>simp [pins] at h; exact .inl (by rw [h])
 | cons m p ih =>
  simp only [pins] at h
  split at h
  ·rcases List.mem_cons.1 h with rfl|h
   ·exact .inr (by simp)
   ·rcases ih h with h|h
    ·exact .inl h
    ·exact .inr (by simp [h])
  ·split at h
   ·split at h
    ·exact .inr (by simp [h])
    ·rcases List.mem_cons.1 h with rfl|h
     ·exact .inl rfl
     ·exact .inr (by simp [h])
   ·rcases List.mem_cons.1 h with rfl|h
    ·exact .inl rfl
    ·exact .inr h
theorem z00 {p:List GMono} {e:Ex} {q:Rat} (hp:PVal p) (he:e.ok=true) (hq:q≠0):PVal (pins p e q):=by
 have okq:∀ {r:Rat},r≠0->(⟨e,rto r⟩:GMono).ok=true:=fun {r} h=>GMono.ok_iff.2 ⟨he,zd5 r,by rw [zg3]; exact h⟩
 induction p with
 | nil=>exact zan.2 ⟨fun m hm=>by simp [pins] at hm; rw [hm]; exact okq hq,by simp [pins]⟩
 | cons m p ih =>
  have h:=zan.1 hp
  have ho:=(GMono.ok_iff.1 (h.1 m (by simp))).1
  have h1:=(List.pairwise_cons.1 h.2).1
  simp only [pins]
  split
  ·rename_i h2
   have h3:=zan.1 (ih hp.tail)
   refine zan.2 ⟨fun x hx=>?_,List.pairwise_cons.2 ⟨fun x hx=>?_,h3.2⟩⟩
   ·rcases List.mem_cons.1 hx with rfl|hx
    ·exact h.1 x (by simp)
    ·exact h3.1 x hx
   ·rcases z01 hx with h4|h4
    ·rw [h4]; exact (Ex.cmp_pos ho he).1 h2
    ·exact h1 x h4
  ·rename_i h2
   split
   ·rename_i h3
    split
    ·exact hp.tail
    ·rename_i h4
     refine zan.2 ⟨fun x hx=>?_,List.pairwise_cons.2 ⟨fun x hx=>?_,(zan.1 hp.tail).2⟩⟩
     ·rcases List.mem_cons.1 hx with rfl|hx
      ·exact okq h4
      ·exact h.1 x (by simp [hx])
     ·have:=h1 x hx; rw [h3] at this; exact this
   ·rename_i h3
    have h4:m.e.code<e.code:=by
     have h5:¬ (e.code<m.e.code):=fun h=>h2 ((Ex.cmp_pos ho he).2 h)
     have h6:¬ (m.e.code=e.code):=fun h=>h3 ((Ex.code_inj ho he).1 h)
     omega
    refine zan.2 ⟨fun x hx=>?_,List.pairwise_cons.2 ⟨fun x hx=>?_,h.2⟩⟩
    ·rcases List.mem_cons.1 hx with rfl|hx
     ·exact okq hq
     ·exact h.1 x hx
    ·rcases List.mem_cons.1 hx with rfl|hx
     ·exact h4
     ·exact Int.lt_trans (h1 x hx) h4
theorem z4f (p:List GMono) (e:Ex) (q:Rat) (e':Ex):pc (pins p e q) e'=pc p e'+if e=e' then q else 0:=by
 induction p with
 | nil=>simp only [pins,pc,zg3,Rat.add_zero,Rat.zero_add]
 | cons m p ih =>
  simp only [pins]
  split
  ·simp only [pc,ih,Rat.add_assoc]
  ·split
   ·rename_i h
    split
    ·rename_i h2
     simp only [pc,h]
     by_cases h3:e=e'
     ·simp only [if_pos h3]
      rw [Rat.add_comm (m.coef.v) (pc p e'),Rat.add_assoc,Rat.add_comm m.coef.v q,h2,Rat.add_zero]
     ·simp [h3,Rat.zero_add,Rat.add_zero]
    ·simp only [pc,h,zg3]
     by_cases h3:e=e'
     ·simp only [if_pos h3]
      rw [Rat.add_comm q m.coef.v,Rat.add_assoc,Rat.add_assoc,Rat.add_comm q (pc p e')]
     ·simp [h3,Rat.zero_add,Rat.add_zero]
   ·simp only [pc,zg3]
    rw [Rat.add_comm]
theorem z0w {p:List GMono} (e:Ex) (q:Rat) (hp:PVal p):PVal (pput p e q):=by
 rw [zki]; split
 ·exact hp
 ·rename_i h; exact z00 hp (by rcases Bool.eq_false_or_eq_true e.ok with h'|h'; exact h'; exact absurd (.inl h') h) (fun h'=>h (.inr h'))
theorem z4e (p:List GMono) (e:Ex) (q:Rat) (e':Ex):pc (pput p e q) e'=pc p e'+if e.ok=true/\e=e' then q else 0:=by
 rw [zki]; split
 ·rename_i h
  rcases h with h|h
  ·simp [h,Rat.add_zero]
  ·simp [h,Rat.add_zero]
 ·rename_i h
  have:e.ok=true:=by rcases Bool.eq_false_or_eq_true e.ok with h'|h'; exact h'; exact absurd (.inl h') h
  rw [z4f]; simp [this]
theorem zss {p:List GMono} (h:PVal p):p.length<=216:=by
 have h1:=zan.1 h
 have:∀ (p:List GMono) (n:Int),(∀ m∈p,0<=m.e.code/\m.e.code<n)->p.Pairwise (fun x y=>y.e.code<x.e.code)->(p.length:Int)<=n\/p=[]:=by
  intro p
  induction p with
  | nil=>intro n _ _; exact .inr rfl
  | cons m p ih =>
   intro n h2 h3
   have h4:=List.pairwise_cons.1 h3
   rcases ih m.e.code (fun x hx=>⟨(h2 x (by simp [hx])).1,h4.1 x hx⟩) h4.2 with h5|h5
   ·have:=h2 m (by simp); left; simp; omega
   ·have:=h2 m (by simp); left; subst h5; simp; omega
 rcases this p 216 (fun m hm=>Ex.code_lt (GMono.ok_iff.1 (h1.1 m hm)).1) h1.2 with h2|h2
 ·omega
 ·simp [h2]
end Go.Ab
namespace Go.Ab
open Enc (enc)
attribute [local go_sem] zal Opd.slots
theorem z26 {p:List GMono} (hp:PVal p) {m:GMono} (hm:m∈p):pc p m.e=m.coef.v:=by
 induction p with
 | nil=>simp at hm
 | cons x p ih =>
  rcases List.mem_cons.1 hm with rfl|hm
  ·exact zg7 hp
  ·have h1:=(List.pairwise_cons.1 (zan.1 hp).2).1 m hm
   have h2:x.e≠m.e:=fun h=>by rw [h] at h1; omega
   simp only [pc,if_neg h2,Rat.zero_add]; exact ih hp.tail hm
def pqb (D B:Nat) (p:List GMono):Prop:=∀ e,qb D B (pc p e)
theorem zrb:PVal []:=fun i h=>by simp at h
def padd (p q:List GMono):List GMono:=q.foldl (fun o m=>pput o m.e m.coef.v) p
theorem zc5 {p:List GMono} (q:List GMono) (hp:PVal p):PVal (padd p q):=by
 induction q generalizing p with
 | nil=>exact hp
 | cons m q ih=>exact ih (z0w _ _ hp)
theorem zf5 (p:List GMono) {q:List GMono} (hq:∀ m∈q,m.ok=true) (e:Ex):pc (padd p q) e=pc p e+pc q e:=by
 induction q generalizing p with
 | nil=>simp [padd,pc,Rat.add_zero]
 | cons m q ih =>
  have:=ih (pput p m.e m.coef.v) fun x hx=>hq x (by simp [hx])
  show pc (padd (pput p m.e m.coef.v) q) e=_
  rw [this,z4e]
  have:=(GMono.ok_iff.1 (hq m (by simp))).1
  simp [pc,this,Rat.add_assoc]
theorem PVal.take {p:List GMono} (hp:PVal p) (k:Nat):PVal (p.take k):=by
 have:=zan.1 hp
 exact zan.2 ⟨fun x hx=>this.1 x (List.mem_of_mem_take hx),this.2.sublist (List.take_sublist _ _)⟩
def Ex.add (x y:Ex):Ex:=⟨x.a+y.a,x.b+y.b,x.c+y.c⟩
def prow (m:GMono) (q:List GMono) (o:List GMono):List GMono:=q.foldl (fun o m'=>pput o (m.e.add m'.e) (m.coef.v*m'.coef.v)) o
def pmul (p q:List GMono):List GMono:=p.foldl (fun o m=>prow m q o) []
end Go.Ab
namespace Go.Ab
open Enc (enc)
attribute [local go_sem] zal Opd.slots
end Go.Ab
namespace Go.Ab
open Enc (enc)
attribute [local go_sem] zal Opd.slots
inductive GW where
 | mk (q:GRat) (cost:Int) (inf:Bool) (set:UInt64) (poly:List GMono) (parts:List GW)
namespace GW
def q:GW->GRat|mk q _ _ _ _ _=>q
def cost:GW->Int|mk _ c _ _ _ _=>c
def inf:GW->Bool|mk _ _ i _ _ _=>i
def set:GW->UInt64|mk _ _ _ s _ _=>s
def poly:GW->List GMono|mk _ _ _ _ p _=>p
def parts:GW->List GW|mk _ _ _ _ _ ps=>ps
mutual
def en:GW->PV
 | mk q c i s p ps=>.agg [.bool q.neg,.sl (ens q.num),.sl (ens q.den),.int .i64 c,.bool i,.int .u64 s.toNat,.sl (ens p),.sl (ensW ps)]
def ensW:List GW->List PV
 | []=>[]
 | w::ps=>en w::ensW ps
end
end GW
instance:Enc GW:=⟨GW.en,8,by decide,fun w=>by cases w; simp [GW.en]; rfl⟩
theorem z5e (ps:List GW):GW.ensW ps=ens ps:=by
 induction ps with
 | nil=>simp [GW.ensW,ens]
 | cons w ps ih=>simp [GW.ensW,ens,ih]; rfl
@[go_sem] theorem ycx (w:GW):enc w=.agg [.bool w.q.neg,.sl (ens w.q.num),.sl (ens w.q.den),.int .i64 w.cost,.bool w.inf,.int .u64 w.set.toNat,.sl (ens w.poly),.sl (ens w.parts)]:=by
 cases w; show GW.en _=_; simp [GW.en,z5e]; simp [GW.q,GW.cost,GW.inf,GW.set,GW.poly,GW.parts]
@[go_sem] theorem ybr:Enc.sz GW=8:=rfl
theorem GW.ext {v w:GW} (h1:v.q=w.q) (h2:v.cost=w.cost) (h3:v.inf=w.inf) (h4:v.set=w.set) (h5:v.poly=w.poly) (h6:v.parts=w.parts):v=w:=by
 cases v; cases w; simp [GW.q,GW.cost,GW.inf,GW.set,GW.poly,GW.parts] at *; simp [*]
noncomputable instance:DecidableEq GW:=fun _ _=>Classical.propDecidable _
structure GRing where
 kind:Int
 parts:List Int
 deriving DecidableEq
instance:Enc GRing:=⟨fun r=>.agg [.int .i64 r.kind,.sl (ens r.parts)],2,by decide,fun _=>rfl⟩
@[go_sem] theorem z9r (r:GRing):enc r=.agg [.int .i64 r.kind,.sl (ens r.parts)]:=rfl
@[go_sem] theorem z6f:Enc.sz GRing=2:=rfl
def GRing.ok (r:GRing):Bool:=if r.kind=6 then decide (2<=r.parts.length/\r.parts.length<=3/\∀ k∈r.parts,1<=k/\k<=5) else decide (1<=r.kind/\r.kind<=5/\r.parts=[])
theorem zo3 (r:GRing):Sp P F.ij [enc r] (.pure (.bool r.ok)):=by
 refine Sp.vz c.ij fun _=>?_
 simp [g.ij,go_sem]
 refine ⟨fun h6=>⟨fun h=>?_,fun h=>⟨fun h2=>?_,fun h2=>?_⟩⟩,fun h6=>⟨fun h=>⟨fun h2=>?_,fun h2=>?_⟩,fun h=>?_⟩⟩
 ·simp [GRing.ok,h6]; intro h'; omega
 ·simp [GRing.ok,h6]; intro h' h''; omega
 rotate_left
 ·simp [GRing.ok,h6,h,h2]
 ·simp [GRing.ok,h6]; intro h'; omega
 ·simp [GRing.ok,h6]; intro h'; omega
 refine zai (S:=fun k:Nat=>mkSt [(1,.ptr 1 0 0 0),(3,.p (.int .i64 k))] [(1,⟨2,[.p (enc r)]⟩)]) (I:=fun k=>k<=r.parts.length/\∀ i,(h:i<r.parts.length)->i<k->1<=r.parts[i]/\r.parts[i]<=5) (m:=fun k=>r.parts.length - k) 0
  (Weak.to [1,3] [((1,0),1)] (by simp [go_sem])) ⟨by omega,fun i h h0=>by omega⟩ ?_
 rintro k ⟨h3,h4⟩ R hn hr hx
 have e1:=i64s k (by omega)
 simp [g.od,mkSt,go_sem]
 refine ⟨fun hk=>?_,fun hk=>hx _ _ ?_⟩
 ·have bad:¬ (1<=r.parts[k]/\r.parts[k]<=5)->r.ok=false:=fun hb=>by
   simp only [GRing.ok,if_pos h6,decide_eq_false_iff_not]
   exact fun h'=>hb (h'.2.2 _ (List.getElem_mem hk))
  refine zae hk ?_
  refine ⟨fun h5=>hr _ ?_,fun h5=>?_⟩
  ·simp [bad (by omega),go_sem]
  refine zae hk ?_
  simp [e1,go_sem]
  refine ⟨fun h7=>hr _ ?_,fun h7=>hn (k+1) _ (Weak.to [1,3] [((1,0),1)] (by simp [go_sem])) ⟨by omega,fun i h hi=>?_⟩ (by omega)⟩
  ·simp [bad (by omega),go_sem]
  ·by_cases hik:i<k
   ·exact h4 i h hik
   ·have:i=k:=by omega
    subst this; omega
 ·have:r.ok=true:=by
   simp only [GRing.ok,if_pos h6,decide_eq_true_eq]
   refine ⟨by omega,by omega,fun x hx=>?_⟩
   obtain ⟨i,hi,rfl⟩:=List.getElem_of_mem hx
   exact h4 i hi (by omega)
  simp [this,go_sem]
inductive GW.sm (n:Nat):GW->Prop
 | mk {q:GRat} {c:Int} {i:Bool} {s:UInt64} {p:List GMono} {ps:List GW}:q.sm n->psm p n->p.length<=n->ps.length<=n->(∀ w∈ps,GW.sm n w)->GW.sm n (.mk q c i s p ps)
theorem GW.sm.q {n:Nat} {w:GW} (h:w.sm n):w.q.sm n:=by cases h; assumption
theorem GW.sm.poly {n:Nat} {w:GW} (h:w.sm n):psm w.poly n:=by cases h; assumption
theorem GW.sm.len {n:Nat} {w:GW} (h:w.sm n):w.poly.length<=n:=by cases h; assumption
theorem GW.sm.plen {n:Nat} {w:GW} (h:w.sm n):w.parts.length<=n:=by cases h; assumption
theorem GW.sm.parts {n:Nat} {w:GW} (h:w.sm n):∀ x∈w.parts,x.sm n:=by cases h; assumption
theorem GW.sm.ind {n:Nat} {M:GW->Prop} (h:∀ v,v.sm n->(∀ w∈v.parts,M w)->M v):∀ v,v.sm n->M v:=by
 intro v hv
 induction hv with|@mk q c i s p ps hq hp hpl hps hw ih=>exact h _ (.mk hq hp hpl hps hw) ih
theorem z05 (r:GRing) (i:Nat) (h:i<r.parts.length):Sp P F.ik [enc r,.int .i64 i] (.pure (enc (⟨r.parts[i],[]⟩:GRing))):=by
 refine Sp.vz c.ik fun _=>?_
 simp [g.ik,go_sem]
 refine zae h ?_
 simp [go_sem]
end Go.Ab
