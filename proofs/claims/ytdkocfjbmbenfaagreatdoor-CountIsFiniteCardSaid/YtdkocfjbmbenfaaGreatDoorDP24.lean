/-
Proofs for the law CountIsFinite, part 24. Conditions: none.
-/
import Derived.Test.YtdkocfjbmbenfaaGreatDoorDP23
import Derived.Test.YtdkocfjbmbenfaaGreatDoorDP12
set_option maxRecDepth 100000
set_option maxHeartbeats 4000000
set_option linter.all false
namespace Go.Ab
theorem ybf (x:UInt32):Sp P F.ji [.int .u32 x.toNat] (.pure (.int .i64 (32 - blen x.toNat:Int))):=by
 refine Sp.vz c.ji fun _=>?_
 have:=zzr (za1 x)
 simp [g.ji,go_sem]
 refine zab (z1i x) rfl ?_
 simp [go_sem]
 rw [i64w (by omega) (by omega)]
theorem zx6 (a:List UInt32) (hl:a.length<=16777216) (h0:a≠[]) (hc:zbe a):∃ s:Nat,s<=31/\Sp P F.i6 [.sl (ens a)] (.pure (.int .i64 (32*a.length - s:Int))):=by
 have hp:0<a.length:=List.length_pos_iff.2 h0
 have hx:a[a.length - 1].toNat≠0:=fun h=>hc (by
  rw [List.getLast?_eq_getElem?,List.getElem?_eq_getElem (by omega)]
  exact congrArg some (zg0 (by simpa using h)))
 have h1:=zzr (za1 a[a.length - 1])
 have h2:=z2r hx
 refine ⟨32 - blen a[a.length - 1].toNat,by omega,?_⟩
 refine Sp.vz c.i6 fun _=>?_
 have e0:IntKind.i64.wrap ((a.length:Int) - 1)=(a.length:Int) - 1:=i64w (by omega) (by omega)
 have e1:IntKind.i64.wrap (32*(a.length:Int))=32*(a.length:Int):=i64w (by omega) (by omega)
 have e2:((a.length:Int) - 1).toNat=a.length - 1:=by omega
 simp [g.i6,h0,e0,e1,e2,go_sem]
 refine zae (by omega) ⟨by omega,zab (ybf _) rfl ?_⟩
 simp [go_sem]
 rw [i64w (by omega) (by omega)]
 omega
theorem zq8 (a b:List UInt32) (hl:a.length<=4194304) (hl2:b.length<=4194304) (hb:val b≠0) (hcb:zbe b):Sp P F.ep [.sl (ens a),.sl (ens b)] (.pure (.tup [.sl (ens (lb (val a / val b))),.sl (ens (lb (val a % val b)))])):=by
 refine Sp.vz c.ep fun _=>?_
 have h0:b≠[]:=fun h=>hb (by rw [h]; rfl)
 obtain ⟨s,hs,hlen⟩:=zx6 b (by omega) h0 hcb
 have e1:IntKind.i64.wrap (32*(b.length:Int))=32*(b.length:Int):=i64w (by omega) (by omega)
 simp [g.ep,e1,go_sem]
 refine ⟨fun h1=>?_,fun h1=>?_⟩
 ·obtain ⟨d,rfl⟩:∃ d,b=[d]:=List.length_eq_one_iff.1 (by omega)
  simp at hb
  refine zae (by simp) ?_
  have hd:d≠0:=fun h=>hb (by rw [h]; rfl)
  refine zab (z0i a d (by omega) hd) (by simp [go_sem]) ?_
  simp [go_sem]
  have e7:((val a:Int) % d.toNat)=((UInt32.ofNat (val a % d.toNat)).toNat:Int):=by
   have:=Nat.mod_lt (val a) (y:=d.toNat) (by omega)
   have:=za1 d
   rw [zau,Nat.mod_eq_of_lt (by omega)]; simp
  rw [e7]
  generalize hz:UInt32.ofNat (val a % d.toNat)=z
  refine zab (zcs [z]) (zbz (zcz rfl (by simp [go_sem]) (by simp)) zcj) ?_
  simp [go_sem]
  have:=Nat.mod_lt (val a) (y:=d.toNat) (by omega)
  have:=za1 d
  rw [<- hz,zau,Nat.mod_eq_of_lt (a:=val a % d.toNat) (by omega)]
 ·have hV0:val b*2^s≠0:=Nat.mul_ne_zero hb (Nat.pos_iff_ne_zero.1 (Nat.pow_pos (by omega)))
  have hs2:=zf2 (s:=s) (by omega)
  have hnu:=zat (n:=val a*2^s) (k:=a.length+1) (by rw [Nat.pow_succ]; exact Nat.mul_lt_mul'' (zb1 a) (by omega))
  have hnv:=zat (n:=val b*2^s) (k:=b.length+1) (by rw [Nat.pow_succ]; exact Nat.mul_lt_mul'' (zb1 b) (by omega))
  have hnv0:=zin hV0
  have hU1:=zhc (val a*2^s)
  have hV1:=zk2 hV0
  have hfin:val a / val b=val a*2^s / (val b*2^s)/\val a % val b=val a*2^s % (val b*2^s) / 2^s:=by
   have hp:0<2^s:=Nat.pow_pos (by omega)
   rw [Nat.mul_mod_mul_right,Nat.mul_div_cancel _ hp,Nat.mul_div_mul_right _ _ hp]; exact ⟨rfl,rfl⟩
  refine zab hlen rfl ?_
  have e3:IntKind.i64.wrap (32*(b.length:Int) - (32*b.length - s))=s:=by rw [i64w (by omega) (by omega)]; omega
  simp [e3,go_sem]
  refine zab (zn6 a s (by omega)) rfl ?_
  simp [go_sem]
  refine zab (zn6 b s (by omega)) rfl ?_
  simp [go_sem]
  rw [hfin.1,hfin.2]
  generalize val a*2^s=U0 at *
  generalize val b*2^s=V at *
  obtain ⟨nu,hnu'⟩:∃ n,(lb U0).length=n:=⟨_,rfl⟩
  obtain ⟨nv,hnv'⟩:∃ n,(lb V).length=n:=⟨_,rfl⟩
  rw [hnu',hnv']
  rw [hnu'] at hU1 hnu
  rw [hnv'] at hV1 hnv0 hnv
  obtain ⟨K,hK⟩:∃ K,K=nu+1 - nv:=⟨_,rfl⟩
  have e4:IntKind.i64.wrap (IntKind.i64.wrap ((nu:Int) - nv)+1)=(nu:Int) - nv+1:=by rw [i64w (n:=(nu:Int) - nv) (by omega) (by omega),i64w (by omega) (by omega)]
  have e5:(if 0<(nu:Int) - nv+1 then (nu:Int) - nv+1 else 0)=(K:Int):=by split<;>omega
  rw [e4,e5]
  simp only [Int.toNat_natCast]
  have e6:IntKind.i64.wrap (max (K:Int) 0 - 1)=(K:Int) - 1:=by rw [i64w (by omega) (by omega)]; omega
  rw [e6]
  have hp:∀ k,0<4294967296^k:=fun k=>Nat.pow_pos (by omega)
  have hVp:0<V:=by omega
  refine ⟨⟨by omega,by omega⟩,zai (S:=fun x:Nat × Nat × List UInt32=>mkSt [(4,.own 1 0 0 K),(8,.p (.int .i64 s)),(9,.p (.sl (ens (lb x.2.1)))),(10,.p (.sl (ens (lb V)))),(11,.p (.int .i64 ((x.1:Int) - 1)))] [(1,⟨1,avs (List.replicate x.1 (0:UInt32)++x.2.2)⟩)])
   (I:=fun x=>x.1+x.2.2.length=K/\x.2.1<V*4294967296^x.1/\U0=x.2.1+V*4294967296^x.1*val x.2.2) (m:=fun x=>x.1) (K,U0,[])
   (Weak.to [4,8,9,10,11] [((49,0),1)] (by simp [go_sem])) ⟨by simp,?_,by simp⟩ ?_⟩
  ·simp
   refine Nat.lt_of_lt_of_le hU1 ?_
   rcases Nat.lt_or_ge (nu+1) nv with h|h
   ·rw [show K=0 by omega]; simp
    exact Nat.le_trans (Nat.pow_le_pow_right (by omega) (by omega)) hV1
   ·refine Nat.le_trans ?_ (Nat.mul_le_mul_right _ hV1)
    rw [<- Nat.pow_add]; exact Nat.pow_le_pow_right (by omega) (by omega)
  rintro ⟨k,U,hi⟩ ⟨h1,h2,h3⟩ R hn hr hx
  simp at h1 h2 h3
  rcases k with _|i
  ·simp [g.mq,go_sem]
   refine hx _ _ ?_
   simp at h1 h2 h3
   simp [go_sem]
   refine zab (zcs hi) (zbz (zcz rfl (by simp) (by omega)) zcj) ?_
   simp [go_sem]
   refine zab (z0s (lb U) s (by have:=zat (n:=U) (k:=nv) (Nat.lt_trans h2 (by rw [<- hnv']; exact zhc V)); omega) (by omega)) (by simp [go_sem]) ?_
   simp [go_sem]
   have q1:U0 / V=val hi:=by rw [h3,Nat.add_mul_div_left _ _ hVp,Nat.div_eq_of_lt h2]; omega
   have q2:U0 % V=U:=by rw [h3,Nat.add_mul_mod_self_left,Nat.mod_eq_of_lt h2]
   rw [q1,q2]; exact ⟨rfl,rfl⟩
  ·have en:IntKind.i64.wrap ((i:Int)+nv)=(i:Int)+nv:=i64w (by omega) (by omega)
   have en1:IntKind.i64.wrap ((i:Int)+nv - 1)=(i:Int)+nv - 1:=i64w (by omega) (by omega)
   have env:IntKind.i64.wrap ((nv:Int) - 1)=(nv:Int) - 1:=i64w (by omega) (by omega)
   have t0:((i:Int)+nv).toNat=i+nv:=by omega
   have t1:((i:Int)+nv - 1).toNat=i+nv - 1:=by omega
   have t2:((nv:Int) - 1).toNat=nv - 1:=by omega
   have hUn:U<4294967296^(i+nv - 1+2):=by
    refine Nat.lt_of_lt_of_le h2 ?_
    have:=zhc V
    rw [hnv'] at this
    rw [show i+nv - 1+2=nv+(i+1) by omega,Nat.pow_add (m:=nv)]
    exact Nat.mul_le_mul_right _ (Nat.le_of_lt this)
   have hd2:=zud hUn
   rw [show i+nv - 1+1=i+nv by omega] at hd2
   have htop:=zv4 hV0
   rw [hnv'] at htop
   have hge:=z1r (i:=i) hV1 hnv0 h2
   simp [g.mq,hnv',en,go_sem]
   refine zab (zix _ _ (by omega)) rfl ?_
   simp [en1,go_sem]
   refine zab (zix _ _ (by omega)) rfl ?_
   simp [env,hnv',go_sem]
   refine zab (zix _ _ (by omega)) rfl ?_
   simp [t0,t1,t2,go_sem]
   have u1:=za1 ((lb U).getD (i+nv) 0)
   have u2:=za1 ((lb U).getD (i+nv - 1) 0)
   simp only [List.getD_eq_getElem?_getD] at hd2 htop u1 u2
   rw [htop.1]
   generalize ((lb U)[i+nv]?.getD 0).toNat=x at hd2 u1 ⊢
   generalize ((lb U)[i+nv - 1]?.getD 0).toNat=y at hd2 u2 ⊢
   have ho:=zxf (r:=x) (x:=y) (k:=32) (by omega) (by omega) (by omega)
   simp only [show (2:Int)^32=4294967296 from rfl,show (2:Nat)^32=4294967296 from rfl] at ho
   have hlt2:U / 4294967296^(i+nv - 1)<18446744073709551616:=by omega
   rw [ho,hd2,z7a]
   have hE:U / 4294967296^(i+nv - 1) / (V / 4294967296^(nv - 1))<18446744073709551616:=Nat.lt_of_le_of_lt (Nat.div_le_self _ _) (by omega)
   generalize U / 4294967296^(i+nv - 1) / (V / 4294967296^(nv - 1))=E at hE hge ⊢
   obtain ⟨G,hG⟩:∃ G,G=min E 4294967295:=⟨_,rfl⟩
   have eG:(if (4294967295:Int)<(E:Int) % 18446744073709551616 then (4294967295:Int) else (E:Int) % 18446744073709551616)=(G:Int):=by split<;>omega
   rw [eG]
   rw [<- hG] at hge
   obtain ⟨z,hz⟩:∃ z:UInt32,z.toNat=G:=⟨UInt32.ofNat G,by rw [zau]; omega⟩
   have ez:(G:Int) % 4294967296=(z.toNat:Int):=by omega
   rw [ez]
   have ht0:¬ (V / 4294967296^(nv - 1)=0):=by omega
   refine ⟨ht0,zab (zcs [z]) (zbz (zcz rfl (by simp [go_sem]) (by simp)) zcj) ?_⟩
   have ei:IntKind.i64.wrap (32*(i:Int))=((32*i:Nat):Int):=by rw [i64w (by omega) (by omega)]; omega
   have hzl:=zat (n:=z.toNat) (k:=1) (by have:=za1 z; omega)
   simp [go_sem]
   refine zab (zjn (lb V) (lb z.toNat) (by omega) (by omega)) (by simp [go_sem]) ?_
   simp [ei,go_sem]
   have hVz:=zat (n:=V*z.toNat) (k:=nv+1) (by rw [Nat.pow_succ]; exact Nat.mul_lt_mul'' (by rw [<- hnv']; exact zhc V) (za1 z))
   refine zab (zn6 (lb (V*z.toNat)) (32*i) (by omega)) (by simp [go_sem]) ?_
   simp [z23,go_sem]
   have hd1:U / (V*4294967296^i)<=z.toNat:=by omega
   refine zai (S:=fun g:Nat=>mkSt [(4,.own 1 0 0 K),(8,.p (.int .i64 s)),(9,.p (.sl (ens (lb U)))),(10,.p (.sl (ens (lb V)))),(11,.p (.int .i64 i)),(13,.p (.int .u64 g)),(14,.p (.sl (ens (lb (V*g*4294967296^i)))))] [(1,⟨1,avs (List.replicate (i+1) (0:UInt32)++hi)⟩)])
    (I:=fun g=>U / (V*4294967296^i)<=g/\g<=4294967295) (m:=fun g=>g) G (Weak.to [4,8,9,10,11,13,14] [((1,0),1)] (by simp [go_sem,hz])) ⟨by omega,by omega⟩ ?_
   rintro gu ⟨g1,g2⟩ R2 hn2 hr2 hx2
   simp [g.oe,go_sem]
   refine zab (zlk (lb U) (lb (V*gu*4294967296^i))) rfl ?_
   simp only [zl6,zgt,zc2,go_sem] at *
   simp [zgt,zc2,go_sem]
   have hPi:0<V*4294967296^i:=Nat.mul_pos hVp (hp i)
   have eg:V*gu*4294967296^i=gu*(V*4294967296^i):=by rw [Nat.mul_comm V gu,Nat.mul_assoc]
   refine ⟨fun hlt=>?_,fun hge2=>?_⟩
   ·have hg0:U / (V*4294967296^i)<gu:=by rw [Nat.div_lt_iff_lt_mul hPi,<- eg]; exact hlt
    have hgp:0<gu:=Nat.lt_of_le_of_lt (Nat.zero_le _) hg0
    obtain ⟨g',rfl⟩:∃ g',gu=g'+1:=⟨gu - 1,by clear hg0 hge g1; omega⟩
    simp only [ei]
    refine zab (zn6 (lb V) (32*i) (by omega)) (by simp [go_sem]) ?_
    simp [z23,go_sem]
    have hlen2:=zat (n:=V*(g'+1)*4294967296^i) (k:=nv+1+i) (by
     rw [Nat.pow_add,Nat.pow_succ]
     exact Nat.mul_lt_mul_of_pos_right (Nat.mul_lt_mul'' (by rw [<- hnv']; exact zhc V) (by omega)) (hp i))
    have hle3:V*4294967296^i<=V*(g'+1)*4294967296^i:=by rw [eg]; exact Nat.le_mul_of_pos_left _ (by omega)
    refine zab (zjs (lb (V*(g'+1)*4294967296^i)) (lb (V*4294967296^i)) (by omega) (by simpa using hle3)) (by simp [go_sem]) ?_
    simp [go_sem]
    refine hn2 g' _ (Weak.to [4,8,9,10,11,13,14] [((1,0),1)] ?_) ⟨Nat.le_of_lt_succ hg0,by clear hg0 hge g1; omega⟩ (by simp)
    have e9:((g':Int)+1 - 1) % 18446744073709551616=g':=by omega
    have e10:V*(g'+1)*4294967296^i - V*4294967296^i=V*g'*4294967296^i:=by
     rw [Nat.mul_succ,Nat.add_mul]; omega
    simp [e10,go_sem]; omega
   ·refine hx2 _ _ ?_
    have hgd:gu=U / (V*4294967296^i):=by
     have:gu<=U / (V*4294967296^i):=by rw [Nat.le_div_iff_mul_le hPi,<- eg]; exact hge2
     omega
    simp [go_sem]
    have hUl:=zat (n:=U) (k:=nv+(i+1)) (Nat.lt_of_lt_of_le h2 (by rw [Nat.pow_add (m:=nv)]; exact Nat.mul_le_mul_right _ (Nat.le_of_lt (by rw [<- hnv']; exact zhc V))))
    refine zab (zjs (lb U) (lb (V*gu*4294967296^i)) (by omega) (by simpa using hge2)) (by simp [go_sem]) ?_
    simp [go_sem]
    refine ⟨⟨by omega,by omega⟩,?_⟩
    rw [zgw]
    refine zae (by simp; omega) ?_
    simp [go_sem]
    obtain ⟨z',hz'⟩:∃ z':UInt32,z'.toNat=gu:=⟨UInt32.ofNat gu,by rw [zau]; omega⟩
    have ez':(gu:Int) % 4294967296=(z'.toNat:Int):=by omega
    have ei2:IntKind.i64.wrap ((i:Int) - 1)=(i:Int) - 1:=i64w (by omega) (by omega)
    rw [ez',ei2]
    have hset:(List.replicate (i+1) (AV.p (.int .u32 0))).set i (AV.p (.int .u32 z'.toNat))=List.replicate i (AV.p (.int .u32 0))++[AV.p (.int .u32 z'.toNat)]:=by
     rw [List.replicate_succ',List.set_append_right _ _ (by simp)]; simp
    refine hn (i,U - V*gu*4294967296^i,z'::hi) _ (Weak.to [4,8,9,10,11] [((1,0),1)] (by simp [hset,go_sem])) ⟨by simp; omega,?_,?_⟩ (by simp)
    ·simp only
     rw [eg,hgd]
     have:=Nat.div_add_mod U (V*4294967296^i)
     have h9:=Nat.mod_lt U hPi
     rw [Nat.mul_comm] at this
     omega
    ·simp only [zbg,hz']
     rw [h3,Nat.mul_add,<- Nat.mul_assoc,Nat.pow_succ,eg]
     rw [eg] at hge2
     have e11:V*4294967296^i*gu=gu*(V*4294967296^i):=Nat.mul_comm _ _
     have e12:V*(4294967296^i*4294967296)=V*4294967296^i*4294967296:=by rw [Nat.mul_assoc]
     rw [e11,e12]
     omega
end Go.Ab
namespace Go.Ab
open Enc (enc)
structure GRat where
 neg:Bool
 num:List UInt32
 den:List UInt32
instance:Enc GRat:=⟨fun x=>.agg [.bool x.neg,.sl (ens x.num),.sl (ens x.den)],3,by decide,fun _=>rfl⟩
@[go_sem] theorem zyy (x:GRat):enc x=.agg [.bool x.neg,.sl (ens x.num),.sl (ens x.den)]:=rfl
@[go_sem] theorem z8d:Enc.sz GRat=3:=rfl
instance (l:List UInt32):Decidable (zbe l):=inferInstanceAs (Decidable (¬ _))
def GRat.valid (x:GRat):Bool :=
 decide (zbe x.num)&&decide (zbe x.den)&&(if x.num=[] then !x.neg&&decide (x.den=[]) else decide (x.den=[]\/(val x.den≠1/\Nat.gcd (val x.num) (val x.den)=1)))
def GRat.sm (x:GRat) (n:Nat):Prop:=x.num.length<=n/\x.den.length<=n
@[simp] theorem z85:zbe []:=by simp [zbe]
theorem z3e (a b:List UInt32) (hl:a.length<=4194304) (hl2:b.length<=4194304) (ha:zbe a) (hb:zbe b):Sp P F.d0 [.sl (ens a),.sl (ens b)] (.pure (.sl (ens (lb (Nat.gcd (val a) (val b)))))):=by
 refine Sp.vz c.d0 fun _=>?_
 simp [g.d0,go_sem]
 refine zai (S:=fun x:List UInt32 × List UInt32=>mkSt [(0,.p (.sl (ens x.1))),(1,.p (.sl (ens x.2)))] []) (I:=fun x=>x.1.length<=4194304/\x.2.length<=4194304/\zbe x.1/\zbe x.2/\Nat.gcd (val x.1) (val x.2)=Nat.gcd (val a) (val b)) (m:=fun x=>val x.2) (a,b) (Weak.of (keep:=[0,1]) (ids:=[]) rfl) ⟨hl,hl2,ha,hb,rfl⟩ ?_
 rintro ⟨x,y⟩ ⟨h1,h2,h3,h4,h5⟩ R hn hr hx
 simp at h1 h2 h3 h4 h5
 simp [g.nt,go_sem]
 refine ⟨fun h=>?_,fun h=>hx _ _ ?_⟩
 ·have hy:val y≠0:=fun h0=>by rw [<- zb8 h4,h0] at h; simp at h
  refine zab (zq8 x y h1 h2 hy h4) rfl ?_
  simp [go_sem]
  have hlt:=Nat.mod_lt (val x) (Nat.pos_of_ne_zero hy)
  have hlen:=zat (Nat.lt_trans hlt (zb1 y))
  refine hn (y,lb (val x % val y)) _ (Weak.of (keep:=[0,1]) (ids:=[]) rfl) ⟨h2,by simp only; omega,h4,zbj _,?_⟩ (by simpa using hlt)
  simp only [zl6]
  rw [<- h5,Nat.gcd_comm (val x),Nat.gcd_rec (val y) (val x),Nat.gcd_comm]
 ·subst h
  simp at h5
  simp [go_sem]
  rw [<- h5,zb8 h3]
theorem zkn:Sp P F.ch [] (.pure (.sl (ens [(1:UInt32)]))):=by
 refine Sp.vz c.ch fun _=>?_
 simp [g.ch,go_sem]
theorem zpk (a:List UInt32):Sp P F.gz [.sl (ens a)] (.pure (.bool (decide (zbe a)))):=by
 refine Sp.vz c.gz fun hs=>?_
 have hl:=zko hs.1
 have e:IntKind.i64.wrap (↑a.length - 1) = ↑a.length - 1:=i64w (by omega) (by omega)
 have e2:((a.length:Int) - 1).toNat=a.length - 1:=by omega
 simp [g.gz,e,e2,go_sem]
 refine ⟨fun h=>by subst h; simp [zbe],fun h=>?_⟩
 have hp:=List.length_pos_iff.2 h
 refine zae (by omega) ⟨by omega,?_⟩
 have hx:(a[a.length - 1].toNat=0) ↔ ¬ zbe a:=by
  simp only [zbe,List.getLast?_eq_getElem?,List.getElem?_eq_getElem (show a.length - 1<a.length by omega)]
  simp
  exact ⟨fun h=>zg0 (by simpa using h),fun h=>by rw [h]; rfl⟩
 by_cases hc:zbe a<;>simp [hc,hx]
theorem zh9:val [(1:UInt32)]=1:=rfl
theorem zho (x:GRat) (hx:x.sm 4194304):Sp P F.bc [enc x] (.pure (.bool x.valid)):=by
 obtain ⟨h1,h2⟩:=hx
 refine Sp.vz c.bc fun _=>?_
 simp [g.bc,go_sem]
 refine zab (zpk x.num) rfl ?_
 simp [go_sem]
 refine ⟨fun h3=>?_,fun h3=>?_⟩
 ·refine zab (zpk x.den) rfl ?_
  simp [go_sem]
  refine ⟨fun h4=>?_,fun h4=>?_⟩
  ·refine ⟨fun h5=>?_,fun h5=>⟨fun h6=>?_,fun h6=>?_⟩⟩
   ·rw [zfu]
    refine ⟨fun h6=>?_,fun h6=>?_⟩
    ·simp [go_sem,GRat.valid,h3,h4,h5,h6]
    ·simp [go_sem,GRat.valid,h3,h4,h5,h6]
   ·simp [GRat.valid,h3,h5,h6]
   ·refine zah zkn zcj ?_
    simp [go_sem]
    refine zah (zlk x.den [1]) rfl ?_
    simp [zgh,zh9,go_sem]
    refine ⟨fun h7=>?_,fun h7=>?_⟩
    ·simp [GRat.valid,h3,h4,h5,h6,h7]
    ·refine zah (z3e x.num x.den h1 h2 h3 h4) rfl ?_
     simp [go_sem]
     refine zah zkn zcj ?_
     simp [go_sem]
     refine zah (zlk _ [1]) rfl ?_
     simp [zgh,zh9,go_sem]
     simp [GRat.valid,h3,h4,h5,h6,h7]
  ·simp [GRat.valid,h3,h4]
 ·simp [GRat.valid,h3]
end Go.Ab
namespace Go.Ab
open Enc (enc)
def sgn (neg:Bool) (n:Nat):Int:=if neg then -(n:Int) else n
def GRat.v (x:GRat):Rat:=if x.valid then mkRat (sgn x.neg (val x.num)) (if x.den=[] then 1 else val x.den) else 0
def rto (q:Rat):GRat:=⟨decide (q.num<0),lb q.num.natAbs,if q.den=1 then [] else lb q.den⟩
structure Fr where
 neg:Bool
 n:Nat
 d:Nat
def Fr.e (f:Fr):GRat:=⟨f.neg,lb f.n,lb f.d⟩
def Fr.v (f:Fr):Rat:=mkRat (sgn f.neg f.n) f.d
def frq (q:Rat):Fr:=⟨decide (q.num<0),q.num.natAbs,q.den⟩
theorem zmb (z:Int):sgn (decide (z<0)) z.natAbs=z:=by unfold sgn; split<;>simp_all<;>omega
theorem zoh (q:Rat):(frq q).v=q:=by simp [Fr.v,frq,zmb,Rat.mkRat_self]
theorem zd3 (b:Bool) (n:Nat):(sgn b n).natAbs=n:=by unfold sgn; split<;>simp
theorem zjk {x:GRat} (h:x.valid=true) (hn:x.num≠[]) (hd:x.den≠[]):val x.den≠1/\Nat.gcd (val x.num) (val x.den)=1:=by
 simp [GRat.valid,hn,hd] at h; exact h.2
theorem zlo {l:List UInt32} (h:zbe l):val l=0 ↔ l=[]:=⟨fun h0=>by rw [<- zb8 h,h0]; simp,fun h0=>by rw [h0]; rfl⟩
theorem znl {x:GRat} (h:x.valid=true):rto x.v=x:=by
 have hv:x.v=mkRat (sgn x.neg (val x.num)) (if x.den=[] then 1 else val x.den):=by simp [GRat.v,h]
 have hc:zbe x.num/\zbe x.den:=by simp [GRat.valid] at h; exact ⟨h.1.1,h.1.2⟩
 obtain ⟨neg,num,den⟩:=x
 simp only at hv hc
 by_cases hn:num=[]
 ·subst hn
  simp [GRat.valid] at h
  obtain ⟨_,rfl,rfl⟩:=h
  rw [hv]; simp [rto,sgn]
 ·have hn0:val num≠0:=fun h0=>hn ((zlo hc.1).1 h0)
  have hsg:(sgn neg (val num))≠0:=by unfold sgn; split<;>omega
  have hdec:decide (sgn neg (val num)<0)=neg:=by unfold sgn; cases neg<;>simp; omega
  by_cases hd:den=[]
  ·subst hd
   rw [hv]
   simp only [if_true]
   have e:mkRat (sgn neg (val num)) 1=((sgn neg (val num):Int):Rat):=by simp [Rat.mkRat_one]
   rw [e]
   simp only [rto,Rat.num_intCast,Rat.den_intCast,if_true,zd3,zb8 hc.1]
   congr 1
  ·have hcop:=zjk h hn hd
   simp only at hcop
   have hd0:val den≠0:=fun h0=>hd ((zlo hc.2).1 h0)
   rw [hv,if_neg hd]
   have hq:mkRat (sgn neg (val num)) (val den)=⟨sgn neg (val num),val den,hd0,by rw [zd3]; exact hcop.2⟩:=by
    rw [Rat.mk_eq_mkRat]
   rw [hq]
   simp only [rto,if_neg hcop.1,zd3,zb8 hc.1,zb8 hc.2,hdec]
theorem ze2 (q:Rat):(frq q).d≠0:=q.den_nz
theorem zd5 (q:Rat):(rto q).valid=true:=by
 have h1:(lb q.num.natAbs=[]) ↔ q.num=0:=by simp
 simp only [GRat.valid,rto,decide_true,Bool.true_and,zbj]
 by_cases hz:q.num=0
 ·have:q.den=1:=by have:=q.reduced; rw [hz] at this; simpa [Nat.Coprime] using this
  have hl:=h1.2 hz
  simp [hl,hz,this]
 ·have hl:¬ lb q.num.natAbs=[]:=fun h=>hz (h1.1 h)
  by_cases hd:q.den=1
  ·simp [hd,hz]
  ·have hr:Nat.gcd q.num.natAbs q.den=1:=q.reduced
   simp [hd,zbj,hr,hz]
theorem zg3 (q:Rat):(rto q).v=q:=by
 rw [GRat.v,if_pos (zd5 q)]
 have hden:(if (rto q).den=[] then 1 else val (rto q).den)=q.den:=by
  simp only [rto]
  by_cases hd:q.den=1
  ·simp [hd]
  ·have:q.den≠0:=q.den_nz
   simp [hd,this]
 rw [hden]
 simp only [rto,zl6,zmb,Rat.mkRat_self]
theorem zj4 {x:GRat} (h:x.valid=false):x.v=0:=by simp [GRat.v,h]
theorem zdv:rto 0=⟨false,[],[]⟩:=by simp [rto]
theorem z3x {b:Bool} {n g:Nat} (h:g ∣ n):sgn b n / (g:Int)=sgn b (n / g):=by
 unfold sgn
 cases b
 ·simp
 ·simp only [if_true]
  rw [Int.neg_ediv_of_dvd (Int.natCast_dvd_natCast.2 h)]; simp
theorem z3w {b:Bool} {n:Nat} (h:n≠0):decide (sgn b n<0)=b:=by unfold sgn; cases b<;>simp; omega
theorem zwu {f:Fr} (hd:f.d≠0) (hn:f.n≠0):rto f.v=⟨f.neg,lb (f.n / Nat.gcd f.n f.d),if f.d / Nat.gcd f.n f.d=1 then [] else lb (f.d / Nat.gcd f.n f.d)⟩:=by
 have hg:0<Nat.gcd f.n f.d:=Nat.gcd_pos_of_pos_left _ (by omega)
 have e1:f.v.num=sgn f.neg (f.n / Nat.gcd f.n f.d):=by
  rw [Fr.v,Rat.num_mkRat,if_neg hd,zd3,Nat.gcd_comm,z3x (Nat.gcd_dvd_left _ _)]
 have e2:f.v.den=f.d / Nat.gcd f.n f.d:=by rw [Fr.v,Rat.den_mkRat,if_neg hd,zd3,Nat.gcd_comm]
 have h3:f.n / Nat.gcd f.n f.d≠0:=by
  have:=Nat.div_pos (Nat.gcd_le_left f.d (by omega:0<f.n)) hg; omega
 simp only [rto,e1,e2,zd3,z3w h3]
theorem zj5 {f:Fr} (hn:f.n=0):f.v=0:=by simp [Fr.v,hn,sgn]
end Go.Ab
namespace Go.Ab
open Enc (enc)
theorem zto:(frq 0).e=⟨false,[],[1]⟩:=by simp [frq,Fr.e,zk1]
theorem zlb {x:GRat} (h:x.valid=true):(frq x.v).e=⟨x.neg,x.num,if x.den=[] then [1] else x.den⟩:=by
 have e:=znl h
 generalize x.v=q at e
 subst e
 have:q.den≠0:=q.den_nz
 by_cases hd:q.den=1<;>simp [frq,Fr.e,rto,hd,zk1,this]
theorem zxl (x:GRat) (hx:x.sm 4194304):Sp P F.cj [enc x] (.pure (enc (frq x.v).e)):=by
 refine Sp.vz c.cj fun _=>?_
 simp [g.cj,go_sem]
 refine zab (zho x hx) rfl ?_
 simp [go_sem]
 rw [zfu]
 refine ⟨fun h=>?_,fun h=>?_⟩
 ·simp [go_sem]
  rw [zlb h]
  refine ⟨fun h3=>?_,fun h3=>?_⟩
  ·refine zah zkn zcj ?_
   simp [h3,go_sem]
  ·simp [h3,go_sem]
 ·simp [go_sem]
  refine zab zkn zcj ?_
  simp [zj4 h,zto,go_sem]
theorem zro (f:Fr) (hd:f.d≠0) (hx:f.e.sm 4194304):Sp P F.cr [enc f.e] (.pure (enc (rto f.v))):=by
 obtain ⟨h1,h2⟩:=hx
 simp only [Fr.e] at h1 h2
 refine Sp.vz c.cr fun _=>?_
 simp [g.cr,Fr.e,go_sem]
 refine ⟨fun h=>?_,fun h=>?_⟩
 ·simp [zj5 h,zdv,go_sem]
 ·have hg:=Nat.gcd_pos_of_pos_left f.d (Nat.pos_of_ne_zero h)
  refine zah (zje _ (by omega)) rfl ?_
  simp [go_sem]
  refine zah (zje _ (by omega)) rfl ?_
  simp [go_sem]
  refine zab (z3e _ _ h1 h2 (zbj _) (zbj _)) rfl ?_
  simp [go_sem]
  refine zab zkn zcj ?_
  simp [go_sem]
  refine zab (zlk _ [1]) rfl ?_
  have hlg:(lb (Nat.gcd f.n f.d)).length<=4194304:=by
   refine Nat.le_trans (zat (n:=Nat.gcd f.n f.d) (k:=(lb f.n).length) ?_) h1
   exact Nat.lt_of_le_of_lt (Nat.gcd_le_left _ (Nat.pos_of_ne_zero h)) (zhc _)
  rw [zwu hd h]
  simp [zgh,zh9,go_sem]
  refine ⟨fun h5=>?_,fun h5=>?_⟩
  ·refine zab zkn zcj ?_
   simp [go_sem]
   refine zab (zlk _ [1]) rfl ?_
   simp [zgh,zh9,h5,go_sem]
   refine ⟨fun h6=>?_,fun h6=>?_⟩<;>simp [h6,go_sem]
  ·refine zab (zq8 (lb f.n) (lb (Nat.gcd f.n f.d)) h1 hlg (by simp; omega) (zbj _)) rfl ?_
   simp [go_sem]
   refine zab (zq8 (lb f.d) (lb (Nat.gcd f.n f.d)) h2 hlg (by simp; omega) (zbj _)) rfl ?_
   simp [go_sem]
   refine zab zkn zcj ?_
   simp [go_sem]
   refine zab (zlk _ [1]) rfl ?_
   simp [zgh,zh9,h5,go_sem]
   refine ⟨fun h6=>?_,fun h6=>?_⟩<;>simp [h6,go_sem]
end Go.Ab
namespace Go.Ab
open Enc (enc)
def fadd (f g:Fr):Fr :=
 if f.neg=g.neg then ⟨f.neg,f.n*g.d+g.n*f.d,f.d*g.d⟩
 else if g.n*f.d<=f.n*g.d then ⟨f.neg,f.n*g.d - g.n*f.d,f.d*g.d⟩ else ⟨g.neg,g.n*f.d - f.n*g.d,f.d*g.d⟩
theorem zwr (b:Bool) (n d:Nat):sgn b n*(d:Int)=sgn b (n*d):=by unfold sgn; cases b<;>simp [Int.neg_mul]
theorem zp7 {f g:Fr} (hf:f.d≠0) (hg:g.d≠0):(fadd f g).v=f.v+g.v:=by
 unfold Fr.v
 rw [Rat.mkRat_add_mkRat _ _ hf hg,zwr,zwr]
 unfold fadd
 generalize f.n*g.d=A
 generalize g.n*f.d=B
 cases h1:f.neg<;>cases h2:g.neg<;>simp [sgn]
 ·split<;>simp<;>congr 1<;>omega
 ·split<;>simp<;>congr 1<;>omega
 ·congr 1; omega
theorem zp8 {f g:Fr} (hf:f.d≠0) (hg:g.d≠0):(fadd f g).d≠0:=by
 have:(fadd f g).d=f.d*g.d:=by unfold fadd; split<;>(try split)<;>rfl
 rw [this]; exact Nat.mul_ne_zero hf hg
theorem zfr {x:GRat} {n:Nat} (h:x.sm n) (hn:1<=n):(frq x.v).e.sm n:=by
 by_cases hv:x.valid=true
 ·rw [zlb hv]
  refine ⟨h.1,?_⟩
  simp only; split
  ·simpa using hn
  ·exact h.2
 ·rw [zj4 (by simpa using hv),zto]; exact ⟨by simp,by simpa using hn⟩
theorem zfi {m n a b:Nat} (h1:(lb m).length<=a) (h2:(lb n).length<=b):(lb (m*n)).length<=a+b:=by
 refine zat ?_
 rw [Nat.pow_add]
 exact Nat.mul_lt_mul'' (Nat.lt_of_lt_of_le (zhc m) (Nat.pow_le_pow_right (by omega) h1)) (Nat.lt_of_lt_of_le (zhc n) (Nat.pow_le_pow_right (by omega) h2))
theorem zn5 {m n:Nat} (h:m<=n):(lb m).length<=(lb n).length:=zat (Nat.lt_of_le_of_lt h (zhc n))
theorem zim {m n a:Nat} (h1:(lb m).length<=a) (h2:(lb n).length<=a):(lb (m+n)).length<=a+1:=by
 refine zat ?_
 have:=Nat.lt_of_lt_of_le (zhc m) (Nat.pow_le_pow_right (n:=4294967296) (by omega) h1)
 have:=Nat.lt_of_lt_of_le (zhc n) (Nat.pow_le_pow_right (n:=4294967296) (by omega) h2)
 rw [Nat.pow_succ]; omega
theorem zlf {f g:Fr} {n:Nat} (hf:f.e.sm n) (hg:g.e.sm n):(fadd f g).e.sm (n+n+1):=by
 obtain ⟨a,b⟩:=hf
 obtain ⟨c,d⟩:=hg
 simp only [Fr.e] at a b c d
 have h1:=zfi a d
 have h2:=zfi c b
 have h3:=zfi b d
 unfold fadd
 split
 ·exact ⟨zim h1 h2,by simp only [Fr.e]; omega⟩
 ·split
  ·exact ⟨by have:=zn5 (Nat.sub_le (f.n*g.d) (g.n*f.d)); simp only [Fr.e]; omega,by simp only [Fr.e]; omega⟩
  ·exact ⟨by have:=zn5 (Nat.sub_le (g.n*f.d) (f.n*g.d)); simp only [Fr.e]; omega,by simp only [Fr.e]; omega⟩
theorem GRat.sm.mono {x:GRat} {m n:Nat} (h:x.sm m) (hmn:m<=n):x.sm n:=⟨Nat.le_trans h.1 hmn,Nat.le_trans h.2 hmn⟩
theorem ztp (u w:Fr) (hf:u.e.sm 1048576) (hg:w.e.sm 1048576):Sp P F.d9 [enc u.e,enc w.e] (.pure (enc (fadd u w).e)):=by
 have h1:=zfi hf.1 hg.2
 have h2:=zfi hg.1 hf.2
 have h3:=zfi hf.2 hg.2
 obtain ⟨a1,a2⟩:=hf
 obtain ⟨b1,b2⟩:=hg
 simp only [Fr.e] at a1 a2 b1 b2
 refine Sp.vz c.d9 fun _=>?_
 simp [g.d9,Fr.e,go_sem]
 refine zah (zjn (lb u.n) (lb w.d) (by omega) (by omega)) rfl ?_
 simp [go_sem]
 refine zah (zjn (lb w.n) (lb u.d) (by omega) (by omega)) rfl ?_
 simp [go_sem]
 refine zah (zjn (lb u.d) (lb w.d) (by omega) (by omega)) rfl ?_
 simp [go_sem]
 refine ⟨fun h=>?_,fun h=>?_⟩
 ·refine zah (z37 (lb (u.n*w.d)) (lb (w.n*u.d)) (by omega) (by omega)) rfl ?_
  simp [h,fadd,go_sem]
 ·refine zab (zlk (lb (u.n*w.d)) (lb (w.n*u.d))) rfl ?_
  simp [zc2,zgt,go_sem]
  refine ⟨fun h'=>?_,fun h'=>?_⟩
  ·refine zah (zjs (lb (u.n*w.d)) (lb (w.n*u.d)) (by omega) (by simpa using h')) rfl ?_
   simp [h,h',fadd,go_sem]
  ·refine zah (zjs (lb (w.n*u.d)) (lb (u.n*w.d)) (by omega) (by simp; omega)) rfl ?_
   have h'':¬ (w.n*u.d<=u.n*w.d):=Nat.not_le.2 h'
   simp [h,h'',fadd,go_sem]
theorem zg5 (x y:GRat) (hx:x.sm 1048576) (hy:y.sm 1048576):Sp P F.au [enc x,enc y] (.pure (enc (rto (x.v+y.v)))):=by
 have h1:=zfr hx (by omega)
 have h2:=zfr hy (by omega)
 refine Sp.vz c.au fun _=>?_
 simp [g.au,go_sem]
 refine zah (zxl x (hx.mono (by omega))) rfl ?_
 simp [go_sem]
 refine zah (zxl y (hy.mono (by omega))) rfl ?_
 simp [go_sem]
 refine zah (ztp _ _ h1 h2) rfl ?_
 simp [go_sem]
 refine zah (zro _ (zp8 (ze2 _) (ze2 _)) ((zlf h1 h2).mono (by omega))) rfl ?_
 simp [zp7,ze2,zoh,go_sem]
def fneg (u:Fr):Fr:=⟨!u.neg,u.n,u.d⟩
theorem zrc (u:Fr):Sp P F.io [enc u.e] (.pure (enc (fneg u).e)):=by
 refine Sp.vz c.io fun _=>?_
 simp [g.io,fneg,Fr.e,go_sem]
theorem zyt (u:Fr):(fneg u).v = - u.v:=by
 unfold Fr.v fneg; rw [Rat.neg_mkRat]; congr 1; unfold sgn; cases u.neg<;>simp
theorem zq3 (x y:GRat) (hx:x.sm 1048576) (hy:y.sm 1048576):Sp P F.cm [enc x,enc y] (.pure (enc (rto (x.v - y.v)))):=by
 have h1:=zfr hx (by omega)
 have h2:=zfr hy (by omega)
 have h3:(fneg (frq y.v)).e.sm 1048576:=h2
 refine Sp.vz c.cm fun _=>?_
 simp [g.cm,go_sem]
 refine zah (zxl x (hx.mono (by omega))) rfl ?_
 simp [go_sem]
 refine zah (zxl y (hy.mono (by omega))) rfl ?_
 simp [go_sem]
 refine zah (zrc (frq y.v)) rfl ?_
 simp [go_sem]
 refine zah (ztp (frq x.v) (fneg (frq y.v)) h1 h3) rfl ?_
 simp [go_sem]
 refine zah (zro (fadd (frq x.v) (fneg (frq y.v))) (zp8 (ze2 _) (ze2 y.v)) ((zlf h1 h3).mono (by omega))) rfl ?_
 have e:=zp7 (f:=frq x.v) (g:=fneg (frq y.v)) (ze2 _) (ze2 y.v)
 simp [e,zoh,zyt,Rat.sub_eq_add_neg,go_sem]
end Go.Ab
namespace Go.Ab
open Enc (enc)
def sgnR (q:Rat):Int:=if q.num=0 then 0 else if q.num<0 then -1 else 1
theorem zhp (x:GRat) (hx:x.sm 4194304):Sp P F.ar [enc x] (.pure (.int .i64 (sgnR x.v))):=by
 refine Sp.vz c.ar fun _=>?_
 simp [g.ar,go_sem]
 refine zab (zxl x hx) rfl ?_
 simp [Fr.e,frq,sgnR,go_sem]
 refine ⟨fun h=>by simp [h],fun h=>⟨fun h'=>by simp [h,h'],fun h'=>by simp [h]; omega⟩⟩
theorem zx7 {n d:Nat}:(lb (n / d)).length<=(lb n).length:=zn5 (Nat.div_le_self _ _)
theorem zkf {f:Fr} {n:Nat} (hd:f.d≠0) (h:f.e.sm n):(rto f.v).sm n:=by
 by_cases hn:f.n=0
 ·rw [zj5 hn,zdv]; exact ⟨by simp,by simp⟩
 ·rw [zwu hd hn]
  refine ⟨Nat.le_trans zx7 h.1,?_⟩
  simp only; split
  ·simp
  ·exact Nat.le_trans zx7 h.2
theorem zfc (x y:GRat) (hx:x.sm 1048576) (hy:y.sm 1048576):Sp P F.bi [enc x,enc y] (.pure (.int .i64 (sgnR (x.v - y.v)))):=by
 have h1:=zfr hx (by omega)
 have h2:=zfr hy (by omega)
 have h3:(fneg (frq y.v)).e.sm 1048576:=h2
 have h4:(rto (x.v - y.v)).sm 4194304:=by
  have e:=zp7 (f:=frq x.v) (g:=fneg (frq y.v)) (ze2 _) (ze2 y.v)
  rw [zoh,zyt,zoh,<- Rat.sub_eq_add_neg] at e
  rw [<- e]
  exact zkf (zp8 (ze2 _) (ze2 y.v)) ((zlf h1 h3).mono (by omega))
 refine Sp.vz c.bi fun _=>?_
 simp [g.bi,go_sem]
 refine zab (zq3 x y hx hy) rfl ?_
 simp [go_sem]
 refine zab (zhp (rto (x.v - y.v)) h4) rfl ?_
 simp [zg3,go_sem]
theorem zsa (v:Int) (h1 : -9223372036854775808<=v) (h2:v<=9223372036854775807):Sp P F.ib [.int .i64 v] (.pure (.tup [.bool (decide (v<0)),.sl (ens (lb v.natAbs))])):=by
 refine Sp.vz c.ib fun _=>?_
 simp [g.ib,go_sem]
 obtain ⟨z1,hz1⟩:∃ z:UInt32,z.toNat=v.natAbs % 4294967296:=⟨_,zau _⟩
 obtain ⟨z2,hz2⟩:∃ z:UInt32,z.toNat=v.natAbs / 4294967296 % 4294967296:=⟨_,zau _⟩
 have hv:val [z1,z2]=v.natAbs:=by simp only [zbg,zv0,hz1,hz2]; omega
 refine ⟨fun h=>?_,fun h=>?_⟩
 ·have e1:(-(v % 18446744073709551616)) % 4294967296=(z1.toNat:Int):=by omega
  have e2:(-(v % 18446744073709551616)) % 18446744073709551616 / 4294967296 % 4294967296=(z2.toNat:Int):=by omega
  simp only [e1,e2]
  refine zab (zcs [z1,z2]) (zbz (zcz rfl (by simp [go_sem]) (by simp)) zcj) ?_
  rw [hv]; simp [h,go_sem]
 ·have e1:v % 4294967296=(z1.toNat:Int):=by omega
  have e2:v % 18446744073709551616 / 4294967296 % 4294967296=(z2.toNat:Int):=by omega
  simp only [e1,e2]
  refine zab (zcs [z1,z2]) (zbz (zcz rfl (by simp [go_sem]) (by simp)) zcj) ?_
  rw [hv]; simp [h,go_sem]
theorem zqc (a b:Int):(⟨decide (a<0) != decide (b<0),a.natAbs,b.natAbs⟩:Fr).v=Rat.divInt a b:=by
 simp only [Fr.v]
 rcases (by omega:b<0\/0<=b) with hb|hb
 ·have e:Rat.divInt a b=mkRat (-a) b.natAbs:=by
   rw [<- Rat.divInt_ofNat,<- Rat.neg_divInt_neg]; congr 1; omega
  rw [e]; congr 1; unfold sgn; by_cases ha:a<0<;>simp [ha,hb]<;>omega
 ·have e:Rat.divInt a b=mkRat a b.natAbs:=by
   rw [<- Rat.divInt_ofNat]; congr 1; omega
  have hb':¬ b<0:=by omega
  rw [e]; congr 1; unfold sgn; by_cases ha:a<0<;>simp [ha,hb']<;>omega
theorem zso (a b:Int) (ha : -9223372036854775808<=a/\a<=9223372036854775807) (hb : -9223372036854775808<=b/\b<=9223372036854775807) :
  Sp P F.be [.int .i64 a,.int .i64 b] (.pure (.tup [enc (if b=0 then rto 0 else rto (Rat.divInt a b)),.int .i64 (if b=0 then 11 else 0)])):=by
 have hal:=zat (n:=a.natAbs) (k:=2) (by omega)
 have hbl:=zat (n:=b.natAbs) (k:=2) (by omega)
 refine Sp.vz c.be fun _=>?_
 simp [g.be,go_sem]
 refine ⟨fun h=>by simp [h,zdv,go_sem],fun h=>?_⟩
 refine zab (zsa a ha.1 ha.2) rfl ?_
 simp [go_sem]
 refine zab (zsa b hb.1 hb.2) rfl ?_
 simp [go_sem]
 refine zab (zro ⟨decide (a<0) != decide (b<0),a.natAbs,b.natAbs⟩ (by simpa using h) ⟨by simp only [Fr.e]; omega,by simp only [Fr.e]; omega⟩) ?_ ?_
 ·simp [Fr.e,bne,go_sem]
 ·simp [zqc,h,go_sem]
end Go.Ab
namespace Go.Ab
open Enc (enc)
@[go_sem] theorem ybl (x:UInt32):IntKind.i64.wrap (x.toNat:Int)=x.toNat:=by have:=x.toNat_lt; exact i64w (by omega) (by omega)
theorem zj7 (a:List UInt32):Sp P F.az [.sl (ens a)] (.pure (.sl (ens (lb (val a))))):=by
 refine Sp.vz c.az fun hs=>?_
 have hl:=zko hs.1
 simp [g.az,go_sem]
 refine zai (S:=fun l:List UInt32=>mkSt [(0,.p (.sl (ens l)))] []) (I:=fun l=>val l=val a/\l.length<=9223372036854775807) (m:=fun l=>l.length) a (Weak.of (keep:=[0]) (ids:=[]) rfl) ⟨rfl,hl⟩ ?_
 rintro l ⟨h1,h2⟩ R hn hr hx
 have e:IntKind.i64.wrap (↑l.length - 1) = ↑l.length - 1:=i64w (by omega) (by omega)
 have e2:((l.length:Int) - 1).toNat=l.length - 1:=by omega
 simp [g.og,mkSt,e,e2,go_sem]
 have out:zbe l->R (Exit.exit 0) ⟨[(0,.p (.sl (ens l)))],[(DEAD,[none])]⟩:=fun hc=>by
  refine hx _ _ ?_
  simp [go_sem]
  rw [<- h1,zb8 hc]
 refine ⟨fun h=>zae (by omega) ⟨by omega,fun h0=>⟨by omega,hn (l.take (l.length - 1)) _ (Weak.of (keep:=[0]) (ids:=[]) rfl) ?_ ?_⟩,fun h0=>out ?_⟩,fun h=>out ?_⟩
 ·refine ⟨?_,by simp; omega⟩
  have h3:l=l.take (l.length - 1)++[0]:=by
   conv=>lhs; rw [<- List.take_append_getLast l (by intro h4; simp [h4] at h)]
   rw [List.getLast_eq_getElem,zg0 (x:=l[l.length - 1]) (y:=0) (by simpa using h0)]
  rw [h3,zds] at h1
  simpa using h1
 ·simp; omega
 ·intro h4
  rw [List.getLast?_eq_getElem?,List.getElem?_eq_getElem (by omega)] at h4
  simp at h4; rw [h4] at h0; exact h0 rfl
 ·subst h; simp [zbe]
theorem zn4 (a:List UInt32) (i:Int) (h:0<=i):Sp P F.fa [.sl (ens a),.int .i64 i] (.pure (.int .u64 (a.getD i.toNat 0).toNat)):=by
 refine Sp.vz c.fa fun _=>?_
 simp [g.fa,go_sem]
 refine ⟨fun h1=>?_,fun h1=>zae (by omega) ⟨h,?_⟩⟩
 ·have:a.length<=i.toNat:=by omega
  simp [this]
 ·have:i.toNat<a.length:=by omega
  simp [*]
def sgnI (v:Int):Int:=if v<0 then -1 else if 0<v then 1 else 0
theorem zwp (v:Int):Sp P F.fb [.int .i64 v] (.pure (.int .i64 (sgnI v))):=by
 refine Sp.vz c.fb fun _=>?_
 simp [g.fb,sgnI,go_sem]
 refine ⟨fun h=>by omega,fun h=>⟨fun h'=>by split<;>omega,fun h'=>by split<;>omega⟩⟩
theorem zmm (v:Nat) (h:v<18446744073709551616):Sp P F.g8 [.int .u64 v] (.pure (.sl (ens (lb v)))):=by
 refine Sp.vz c.g8 fun _=>?_
 simp [g.g8,go_sem]
 obtain ⟨z1,hz1⟩:∃ z:UInt32,z.toNat=v % 4294967296:=⟨_,zau _⟩
 obtain ⟨z2,hz2⟩:∃ z:UInt32,z.toNat=v / 4294967296 % 4294967296:=⟨_,zau _⟩
 have hv:val [z1,z2]=v:=by simp only [zbg,zv0,hz1,hz2]; omega
 have e1:(v:Int) % 4294967296=(z1.toNat:Int):=by omega
 have e2:(v:Int) / 4294967296 % 4294967296=(z2.toNat:Int):=by omega
 simp only [e1,e2]
 refine zab (zj7 [z1,z2]) (zbz (zcz rfl (by simp [go_sem]) (by simp)) zcj) ?_
 rw [hv]; simp [go_sem]
theorem zii (a:List UInt32):Sp P F.ee [.sl (ens a)] (.pure (.bool (decide (a=[1])))):=by
 refine Sp.vz c.ee fun _=>?_
 simp [g.ee,go_sem]
 refine ⟨fun h=>?_,fun h=>?_⟩
 ·obtain ⟨d,rfl⟩:∃ d,a=[d]:=List.length_eq_one_iff.1 (by omega)
  refine zae (by simp) ?_
  simp
  by_cases hd:d=1
  ·subst hd; simp
  ·have:d.toNat≠1:=fun h=>hd (zg0 (by simpa using h))
   simp [hd]; omega
 ·intro h'; subst h'; simp at h
theorem zpv {a b:List UInt32} (ha:zbe a) (hb:zbe b) (h:a.length<b.length):val a<val b:=by
 have h1:=zb1 a
 have hb0:val b≠0:=fun h0=>by rw [(zlo hb).1 h0] at h; simp at h
 have h2:=zk2 hb0
 rw [zb8 hb] at h2
 exact Nat.lt_of_lt_of_le h1 (Nat.le_trans (Nat.pow_le_pow_right (by omega) (by omega)) h2)
theorem ziu (a b:List UInt32) (hl:a.length<=1073741824) (hl2:b.length<=1073741824) (ha:zbe a) (hb:zbe b):Sp P F.eb [.sl (ens a),.sl (ens b)] (.pure (.int .i64 (cmpN (val a) (val b)))):=by
 refine Sp.vz c.eb fun _=>?_
 have e0:IntKind.i64.wrap ((a.length:Int) - b.length)=(a.length:Int) - b.length:=i64w (by omega) (by omega)
 have e1:IntKind.i64.wrap ((a.length:Int) - 1)=(a.length:Int) - 1:=i64w (by omega) (by omega)
 simp [g.eb,e0,e1,go_sem]
 refine ⟨fun hlen=>?_,fun hlen=>?_⟩
 ·have hlen:a.length=b.length:=by omega
  refine zai (S:=fun k:Nat=>mkSt [(0,.p (.sl (ens a))),(1,.p (.sl (ens b))),(5,.p (.int .i64 ((k:Int) - 1)))] []) (I:=fun k=>k<=a.length/\val a / 4294967296^k=val b / 4294967296^k) (m:=fun k=>k) a.length (Weak.of (keep:=[0,1,5]) (ids:=[]) rfl) ⟨Nat.le_refl _,by rw [zfb _ (by omega),zfb _ (by omega)]⟩ ?_
  rintro k ⟨h1,h2⟩ R hn hr hx
  have e2:((k:Int) - 1).toNat=k - 1:=by omega
  have e3:IntKind.i64.wrap ((k:Int) - 1 - 1)=((k - 1:Nat):Int) - 1\/k=0:=by
   rcases Nat.eq_zero_or_pos k with h|h
   ·exact .inr h
   ·left; rw [i64w (by omega) (by omega)]; omega
  simp [g.n7,mkSt,e2,go_sem]
  refine ⟨fun hk=>zae (by omega) ⟨by omega,zae (by omega) ?_⟩,fun hk=>?_⟩
  ·have e3:=e3.resolve_right (by omega)
   have d1:=zfl a (k - 1)
   have d2:=zfl b (k - 1)
   rw [show k - 1+1=k by omega] at d1 d2
   have u1:=za1 a[k - 1]
   have u2:=za1 b[k - 1]
   simp [show k - 1<a.length by omega,show k - 1<b.length by omega] at d1 d2
   refine ⟨by omega,fun heq=>?_,fun hne=>zae (by omega) ⟨by omega,zae (by omega) ⟨by omega,?_⟩⟩⟩
   ·rw [e3]
    exact hn (k - 1) _ (Weak.of (keep:=[0,1,5]) (ids:=[]) rfl) ⟨by omega,by omega⟩ (by omega)
   ·have hw:IntKind.i64.wrap ((a[k - 1].toNat:Int) - b[k - 1].toNat)=(a[k - 1].toNat:Int) - b[k - 1].toNat:=i64w (by omega) (by omega)
    rw [hw]
    refine zah (zwp _) rfl ?_
    simp [go_sem]
    refine hr _ ?_
    simp [sgnI,go_sem]
    have hlt:val a / 4294967296^(k - 1)<val b / 4294967296^(k - 1)\/val b / 4294967296^(k - 1)<val a / 4294967296^(k - 1):=by omega
    rcases hlt with h|h
    ·have:=zh3 h
     simp only [cmpN]; (repeat' split)<;>omega
    ·have:=zh3 h
     simp only [cmpN]; (repeat' split)<;>omega
  ·refine hx _ _ ?_
   have:k=0:=by omega
   subst this
   simp at h2
   simp [cmpN,h2,go_sem]
 ·refine zab (zwp _) rfl ?_
  simp [sgnI,go_sem]
  rcases Nat.lt_or_ge a.length b.length with h|h
  ·have:=zpv ha hb h
   rw [if_pos (by omega),cmpN,if_pos this]
  ·have:=zpv hb ha (by omega)
   rw [if_neg (by omega),if_pos (by omega),cmpN,if_neg (by omega),if_neg (by omega)]
end Go.Ab
namespace Go.Ab
theorem zvi {v va vb s M:Nat} (h4:v+4294967296^(M+1)*s=va+vb) (h1:va<4294967296^M) (h2:vb<4294967296^M):s=0:=by
 rw [Nat.pow_succ] at h4
 generalize 4294967296^M=p at *
 rcases Nat.eq_zero_or_pos s with h|h
 ·exact h
 ·have:=Nat.le_mul_of_pos_right (p*4294967296) h
  omega
end Go.Ab
namespace Go.Ab
theorem zzs (l:List UInt32) (i:Nat):val l / 2^i % 2=(l.getD (i / 32) 0).toNat / 2^(i % 32) % 2:=by
 have h1:val l / 2^i=val l / 4294967296^(i / 32) / 2^(i % 32):=by rw [zcl i,Nat.div_div_eq_div_mul]
 rw [h1,zfa]
 generalize val l / 4294967296^(i / 32)=x
 have hs:i % 32<32:=Nat.mod_lt _ (by omega)
 generalize i % 32=s at *
 have h:2^s*2^(32 - s)=4294967296:=by rw [<- Nat.pow_add,show s+(32 - s)=32 by omega]
 have h2:2^(32 - s)=2*2^(31 - s):=by rw [show 32 - s=31 - s+1 by omega,Nat.pow_succ]; omega
 have e:=Nat.div_add_mod x 4294967296
 have e2:x=x % 4294967296+2^s*(2*(2^(31 - s)*(x / 4294967296))):=by
  rw [<- Nat.mul_assoc 2,<- h2,<- Nat.mul_assoc,h]; omega
 conv=>lhs; rw [e2,Nat.add_mul_div_left _ _ (Nat.pow_pos (by omega)),Nat.add_mul_mod_self_left]
theorem zyl (x i:Nat):x / 2^i=2*(x / 2^(i+1))+x / 2^i % 2:=by
 rw [Nat.pow_succ,<- Nat.div_div_eq_div_mul]; omega
theorem z7v {l:List UInt32} {i Q:Nat} (h:val l=2^(i+1)*Q) (hi:i / 32<l.length) :
  (l.getD (i / 32) 0).toNat ||| 2^(i % 32)<4294967296/\∀ z:UInt32,z.toNat=(l.getD (i / 32) 0).toNat ||| 2^(i % 32)->val (l.set (i / 32) z)=2^i*(2*Q+1):=by
 have hs:i % 32<32:=Nat.mod_lt _ (by omega)
 have hd:(l.getD (i / 32) 0).toNat=2^(i % 32+1)*(Q % 2^(31 - i % 32)):=by
  rw [zfa,h,Nat.pow_succ,zcl i]
  have e:4294967296^(i / 32)*2^(i % 32)*2*Q=4294967296^(i / 32)*(2^(i % 32)*2*Q):=by simp only [Nat.mul_assoc]
  rw [e,Nat.mul_div_cancel_left _ (Nat.pow_pos (by omega)),<- Nat.pow_succ]
  have e2:(4294967296:Nat)=2^(i % 32+1)*2^(31 - i % 32):=by rw [<- Nat.pow_add,show i % 32+1+(31 - i % 32)=32 by omega]
  rw [e2,Nat.mul_mod_mul_left]
 have ho:(l.getD (i / 32) 0).toNat ||| 2^(i % 32)=(l.getD (i / 32) 0).toNat+2^(i % 32):=by
  rw [hd,Nat.mul_comm,zxg (Nat.pow_lt_pow_right (by omega) (by omega))]
 have hlt:=Nat.or_lt_two_pow (n:=32) (za1 (l.getD (i / 32) 0)) (Nat.pow_lt_pow_right (a:=2) (by omega) hs)
 refine ⟨hlt,fun z hz=>?_⟩
 have v:=zna l (i / 32) z hi
 rw [hz,ho,Nat.mul_add] at v
 have e3:4294967296^(i / 32)*2^(i % 32)=2^i:=(zcl i).symm
 have e4:2^i*(2*Q+1)=2^(i+1)*Q+2^i:=by rw [Nat.mul_add,Nat.pow_succ,Nat.mul_assoc]; omega
 rw [e4,<- h,<- e3]
 omega
end Go.Ab
namespace Go.Ab
open Enc (enc)
theorem zw6 {v p sum A C x y d r:Nat} (h4:v+p*sum=A+C) (e4:x+y+sum=4294967296*d+r):v+p*r+p*4294967296*d=A+p*x+(C+p*y):=by
 have e5:p*(x+y+sum)=p*(4294967296*d+r):=by rw [e4]
 simp only [Nat.mul_add,Nat.mul_assoc] at *
 omega
theorem zns (a b:List UInt32) (hl:a.length<=1073741824) (hl2:b.length<=1073741824):Sp P F.ea [.sl (ens a),.sl (ens b)] (.pure (.sl (ens (lb (val a+val b))))):=by
 refine Sp.vz c.ea fun _=>?_
 simp [g.ea,go_sem]
 obtain ⟨M,hM⟩:∃ M,M=max a.length b.length:=⟨_,rfl⟩
 refine zai (S:=fun x:Nat × Nat × List UInt32=>mkSt [(0,.p (.sl (ens a))),(1,.p (.sl (ens b))),(5,.own 1 0 0 x.1),(6,.p (.int .u64 x.2.1)),(7,.p (.int .i64 x.1))] [(1,⟨1,avs x.2.2⟩)])
  (I:=fun x=>x.2.2.length=x.1/\x.1<=M+1/\x.2.1<=1/\val x.2.2+4294967296^x.1*x.2.1=val (a.take x.1)+val (b.take x.1)) (m:=fun x=>M+1 - x.1) (0,0,[]) (Weak.nl 5 1 1 rfl (Weak.to [0,1,5,6,7] [((1,0),1)] (by simp [go_sem]))) ⟨rfl,by simp,by simp,by simp⟩ ?_
 rintro ⟨i,sum,out⟩ ⟨h1,h2,h3,h4⟩ R hn hr hx
 simp at h1 h2 h3 h4
 simp [g.n5,go_sem]
 refine ⟨fun h=>?_,fun h=>?_⟩
 ·refine zab (zn4 _ _ (by omega)) rfl ?_
  simp [go_sem]
  refine zab (zn4 _ _ (by omega)) rfl ?_
  simp [go_sem]
  have hi:i<=M:=by split at h<;>omega
  have e1:=i64s i (by omega)
  have t1:=zby a i
  have t2:=zby b i
  have u1:=za1 (a.getD i 0)
  have u2:=za1 (b.getD i 0)
  simp only [List.getD_eq_getElem?_getD] at t1 t2 u1 u2
  generalize (a[i]?.getD 0).toNat=x at t1 u1 ⊢
  generalize (b[i]?.getD 0).toNat=y at t2 u2 ⊢
  obtain ⟨z,hz⟩:∃ z:UInt32,z.toNat=(x+y+sum) % 4294967296:=⟨_,zau _⟩
  have e2:((x:Int)+y+sum) % 18446744073709551616 / 4294967296=(((x+y+sum) / 4294967296:Nat):Int):=by omega
  have e3:((x:Int)+y+sum) % 4294967296=(z.toNat:Int):=by rw [hz]; omega
  rw [e1,e2,e3]
  refine ⟨⟨by omega,by omega⟩,hn (i+1,(x+y+sum) / 4294967296,out++[z]) _ (Weak.to [0,1,5,6,7] [((31,0),1)] (by simp [go_sem])) ⟨by simp [h1],by simp only; omega,by simp only; omega,?_⟩ (by simp only; omega)⟩
  simp only
  rw [zds,hz,h1,t1,t2,Nat.pow_succ]
  have e4:x+y+sum=4294967296*((x+y+sum) / 4294967296)+(x+y+sum) % 4294967296:=by omega
  exact zw6 h4 e4
 ·refine hx _ _ ?_
  simp [go_sem]
  have hi:i=M+1:=by split at h<;>omega
  subst hi
  refine zab (zj7 out) (zbz (zcz rfl rfl h1.symm) zcj) ?_
  rw [zc6 _ (by omega),zc6 _ (by omega)] at h4
  have v1:=Nat.lt_of_lt_of_le (zb1 a) (Nat.pow_le_pow_right (n:=4294967296) (by omega) (show a.length<=M by omega))
  have v2:=Nat.lt_of_lt_of_le (zb1 b) (Nat.pow_le_pow_right (n:=4294967296) (by omega) (show b.length<=M by omega))
  have hs0:sum=0:=zvi h4 v1 v2
  subst hs0
  simp [go_sem]
  rw [Nat.mul_zero,Nat.add_zero] at h4
  rw [h4]
end Go.Ab
