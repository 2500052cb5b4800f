/-
Proofs for the law TransducerWeighs, part 25. Conditions: none.
-/
import Derived.Test.YtbhboeijjgiflaaGreatDoorBP24
import Derived.Test.YtbhboeijjgiflaaGreatDoorBP12
set_option maxRecDepth 100000
set_option maxHeartbeats 4000000
set_option linter.all false
namespace Go.Ab
theorem yim (x:UInt32):Sp P F.mr [.int .u32 x.toNat] (.pure (.int .i64 (32 - blen x.toNat:Int))):=by refine Sp.vz c.mr fun _=>?_;have:=z4m (za5 x);simp [g.mr,go_sem];refine zac (z64 x) rfl ?_;simp [go_sem];rw [i64w (by omega) (by omega)]
theorem z20 (a:List UInt32) (hl:a.length<=16777216) (h0:a≠[]) (hc:zbj a):∃ s:Nat,s<=31/\Sp P F.mm [.sl (ens a)] (.pure (.int .i64 (32*a.length - s:Int))):=by
 have hp:0<a.length:=ynf.2 h0;have hx:a[a.length - 1].toNat≠0:=fun h=>hc (by
  rw [List.getLast?_eq_getElem?,List.getElem?_eq_getElem (by omega)];exact congrArg some (zgx (by simpa using h)))
 have h1:=z4m (za5 a[a.length - 1]);have h2:=z8k hx;refine ⟨32 - blen a[a.length - 1].toNat,by omega,?_⟩;refine Sp.vz c.mm fun _=>?_;have e0:IntKind.i64.wrap ((a.length:Int) - 1)=(a.length:Int) - 1:=i64w (by omega) (by omega);have e1:IntKind.i64.wrap (32*(a.length:Int))=32*(a.length:Int):=i64w (by omega) (by omega);have e2:((a.length:Int) - 1).toNat=a.length - 1:=by omega
 simp [g.mm,h0,e0,e1,e2,go_sem];refine zae (by omega) ⟨by omega,zac (yim _) rfl ?_⟩;simp [go_sem];rw [i64w (by omega) (by omega)];omega
theorem zuw (a b:List UInt32) (hl:a.length<=4194304) (hl2:b.length<=4194304) (hb:val b≠0) (hcb:zbj b):Sp P F.je [.sl (ens a),.sl (ens b)] (.pure (.tup [.sl (ens (lb (val a / val b))),.sl (ens (lb (val a % val b)))])):=by
 refine Sp.vz c.je fun _=>?_;have h0:b≠[]:=fun h=>hb (by rw [h]; rfl);obtain ⟨s,hs,hlen⟩:=z20 b (by omega) h0 hcb;have e1:IntKind.i64.wrap (32*(b.length:Int))=32*(b.length:Int):=i64w (by omega) (by omega);simp [g.je,e1,go_sem];refine ⟨fun h1=>?_,fun h1=>?_⟩
 ·obtain ⟨d,rfl⟩:∃ d,b=[d]:=List.length_eq_one_iff.1 (by omega);simp at hb;refine zae (by simp) ?_;have hd:d≠0:=fun h=>hb (by rw [h]; rfl);refine zac (z5t a d (by omega) hd) (by simp [go_sem]) ?_;simp [go_sem];have e7:((val a:Int) % d.toNat)=((UInt32.ofNat (val a % d.toNat)).toNat:Int):=by have:=ymv (val a) (y:=d.toNat) (by omega);have:=za5 d;rw [zaw,ylo (by omega)]; simp
  rw [e7];generalize hz:UInt32.ofNat (val a % d.toNat)=z;refine zac (zdc [z]) (zbz (zdn rfl (by simp [go_sem]) (by simp)) zcv) ?_;simp [go_sem];have:=ymv (val a) (y:=d.toNat) (by omega);have:=za5 d;rw [<- hz,zaw,ylo (a:=val a % d.toNat) (by omega)]
 ·have hV0:val b*2^s≠0:=ym9 hb (yp9.1 (ylf (by omega)));have hs2:=zg9 (s:=s) (by omega);have hnu:=zav (n:=val a*2^s) (k:=a.length+1) (by rw [ykk]; exact ylp (zcd a) (by omega));have hnv:=zav (n:=val b*2^s) (k:=b.length+1) (by rw [ykk]; exact ylp (zcd b) (by omega));have hnv0:=zke hV0;have hU1:=zij (val a*2^s);have hV1:=zm5 hV0;have hfin:val a / val b=val a*2^s / (val b*2^s)/\val a % val b=val a*2^s % (val b*2^s) / 2^s:=by have hp:0<2^s:=ylf (by omega);rw [Nat.mul_mod_mul_right,Nat.mul_div_cancel _ hp,Nat.mul_div_mul_right _ _ hp]; exact ⟨rfl,rfl⟩
  refine zac hlen rfl ?_;have e3:IntKind.i64.wrap (32*(b.length:Int) - (32*b.length - s))=s:=by rw [i64w (by omega) (by omega)]; omega
  simp [e3,go_sem];refine zac (zqv a s (by omega)) rfl ?_;simp [go_sem];refine zac (zqv b s (by omega)) rfl ?_;simp [go_sem];rw [hfin.1,hfin.2];generalize val a*2^s=U0 at *
  generalize val b*2^s=V at *
  obtain ⟨nu,hnu'⟩:∃ n,(lb U0).length=n:=⟨_,rfl⟩;obtain ⟨nv,hnv'⟩:∃ n,(lb V).length=n:=⟨_,rfl⟩;rw [hnu',hnv'];rw [hnu'] at hU1 hnu;rw [hnv'] at hV1 hnv0 hnv;obtain ⟨K,hK⟩:∃ K,K=nu+1 - nv:=⟨_,rfl⟩;have e4:IntKind.i64.wrap (IntKind.i64.wrap ((nu:Int) - nv)+1)=(nu:Int) - nv+1:=by rw [i64w (n:=(nu:Int) - nv) (by omega) (by omega),i64w (by omega) (by omega)]
  have e5:(if 0<(nu:Int) - nv+1 then (nu:Int) - nv+1 else 0)=(K:Int):=by split<;>omega
  rw [e4,e5];simp only [yld];have e6:IntKind.i64.wrap (max (K:Int) 0 - 1)=(K:Int) - 1:=by rw [i64w (by omega) (by omega)]; omega
  rw [e6];have hp:∀ k,0<4294967296^k:=fun k=>ylf (by omega);have hVp:0<V:=by omega
  refine ⟨⟨by omega,by omega⟩,zai (S:=fun x:Nat × Nat × List UInt32=>mkSt [(4,.own 1 0 0 K),(8,.p (.int .i64 s)),(9,.p (.sl (ens (lb x.2.1)))),(10,.p (.sl (ens (lb V)))),(11,.p (.int .i64 ((x.1:Int) - 1)))] [(1,⟨1,avs (List.replicate x.1 (0:UInt32)++x.2.2)⟩)])
   (I:=fun x=>x.1+x.2.2.length=K/\x.2.1<V*4294967296^x.1/\U0=x.2.1+V*4294967296^x.1*val x.2.2) (m:=fun x=>x.1) (K,U0,[])
   (Weak.to [4,8,9,10,11] [((49,0),1)] (by simp [go_sem])) ⟨by simp,?_,by simp⟩ ?_⟩
  ·simp;refine ykc hU1 ?_;rcases yla (nu+1) nv with h|h
   ·rw [show K=0 by omega]; simp;exact yka (yl3 (by omega) (by omega)) hV1
   ·refine yka ?_ (ykd _ hV1);rw [<- Nat.pow_add]; exact yl3 (by omega) (by omega)
  rintro ⟨k,U,hi⟩ ⟨h1,h2,h3⟩ R hn hr hx;simp at h1 h2 h3;rcases k with _|i
  ·simp [g.pb,go_sem];refine hx _ _ ?_;simp at h1 h2 h3;simp [go_sem];refine zac (zdc hi) (zbz (zdn rfl (by simp) (by omega)) zcv) ?_;simp [go_sem];refine zac (z6a (lb U) s (by have:=zav (n:=U) (k:=nv) (Nat.lt_trans h2 (by rw [<- hnv']; exact zij V)); omega) (by omega)) (by simp [go_sem]) ?_;simp [go_sem];have q1:U0 / V=val hi:=by rw [h3,yop _ _ hVp,yn5 h2]; omega
   have q2:U0 % V=U:=by rw [h3,yp6,ylo h2]
   rw [q1,q2]; exact ⟨rfl,rfl⟩
  ·have en:IntKind.i64.wrap ((i:Int)+nv)=(i:Int)+nv:=i64w (by omega) (by omega);have en1:IntKind.i64.wrap ((i:Int)+nv - 1)=(i:Int)+nv - 1:=i64w (by omega) (by omega);have env:IntKind.i64.wrap ((nv:Int) - 1)=(nv:Int) - 1:=i64w (by omega) (by omega);have t0:((i:Int)+nv).toNat=i+nv:=by omega
   have t1:((i:Int)+nv - 1).toNat=i+nv - 1:=by omega
   have t2:((nv:Int) - 1).toNat=nv - 1:=by omega
   have hUn:U<4294967296^(i+nv - 1+2):=by refine ykc h2 ?_;have:=zij V;rw [hnv'] at this;rw [show i+nv - 1+2=nv+(i+1) by omega,ykm (m:=nv)];exact ykd _ (yn7 this)
   have hd2:=zyk hUn;rw [show i+nv - 1+1=i+nv by omega] at hd2;have htop:=z0e hV0;rw [hnv'] at htop;have hge:=z7f (i:=i) hV1 hnv0 h2;simp [g.pb,hnv',en,go_sem];refine zac (zkr _ _ (by omega)) rfl ?_;simp [en1,go_sem];refine zac (zkr _ _ (by omega)) rfl ?_;simp [env,hnv',go_sem];refine zac (zkr _ _ (by omega)) rfl ?_;simp [t0,t1,t2,go_sem];have u1:=za5 ((lb U).getD (i+nv) 0);have u2:=za5 ((lb U).getD (i+nv - 1) 0);simp only [yk9] at hd2 htop u1 u2;rw [htop.1];generalize ((lb U)[i+nv]?.getD 0).toNat=x at hd2 u1 ⊢;generalize ((lb U)[i+nv - 1]?.getD 0).toNat=y at hd2 u2 ⊢;have ho:=z18 (r:=x) (x:=y) (k:=32) (by omega) (by omega) (by omega);simp only [show (2:Int)^32=4294967296 from rfl,show (2:Nat)^32=4294967296 from rfl] at ho;have hlt2:U / 4294967296^(i+nv - 1)<18446744073709551616:=by omega
   rw [ho,hd2,ydp];have hE:U / 4294967296^(i+nv - 1) / (V / 4294967296^(nv - 1))<18446744073709551616:=yl2 (yn6 _ _) (by omega);generalize U / 4294967296^(i+nv - 1) / (V / 4294967296^(nv - 1))=E at hE hge ⊢;obtain ⟨G,hG⟩:∃ G,G=min E 4294967295:=⟨_,rfl⟩;have eG:(if (4294967295:Int)<(E:Int) % 18446744073709551616 then (4294967295:Int) else (E:Int) % 18446744073709551616)=(G:Int):=by split<;>omega
   rw [eG];rw [<- hG] at hge;obtain ⟨z,hz⟩:∃ z:UInt32,z.toNat=G:=⟨UInt32.ofNat G,by rw [zaw]; omega⟩;have ez:(G:Int) % 4294967296=(z.toNat:Int):=by omega
   rw [ez];have ht0:¬ (V / 4294967296^(nv - 1)=0):=by omega
   refine ⟨ht0,zac (zdc [z]) (zbz (zdn rfl (by simp [go_sem]) (by simp)) zcv) ?_⟩;have ei:IntKind.i64.wrap (32*(i:Int))=((32*i:Nat):Int):=by rw [i64w (by omega) (by omega)]; omega
   have hzl:=zav (n:=z.toNat) (k:=1) (by have:=za5 z; omega);simp [go_sem];refine zac (zhq (lb V) (lb z.toNat) (by omega) (by omega)) (by simp [go_sem]) ?_;simp [ei,go_sem];have hVz:=zav (n:=V*z.toNat) (k:=nv+1) (by rw [ykk]; exact ylp (by rw [<- hnv']; exact zij V) (za5 z));refine zac (zqv (lb (V*z.toNat)) (32*i) (by omega)) (by simp [go_sem]) ?_;simp [z80,go_sem];have hd1:U / (V*4294967296^i)<=z.toNat:=by omega
   refine zai (S:=fun g:Nat=>mkSt [(4,.own 1 0 0 K),(8,.p (.int .i64 s)),(9,.p (.sl (ens (lb U)))),(10,.p (.sl (ens (lb V)))),(11,.p (.int .i64 i)),(13,.p (.int .u64 g)),(14,.p (.sl (ens (lb (V*g*4294967296^i)))))] [(1,⟨1,avs (List.replicate (i+1) (0:UInt32)++hi)⟩)])
    (I:=fun g=>U / (V*4294967296^i)<=g/\g<=4294967295) (m:=fun g=>g) G (Weak.to [4,8,9,10,11,13,14] [((1,0),1)] (by simp [go_sem,hz])) ⟨by omega,by omega⟩ ?_
   rintro gu ⟨g1,g2⟩ R2 hn2 hr2 hx2;simp [g.sh,go_sem];refine zac (znt (lb U) (lb (V*gu*4294967296^i))) rfl ?_;simp only [zoj,zh5,zdo,go_sem] at *
   simp [zh5,zdo,go_sem];have hPi:0<V*4294967296^i:=ymu hVp (hp i);have eg:V*gu*4294967296^i=gu*(V*4294967296^i):=by rw [ykz V gu,yko]
   refine ⟨fun hlt=>?_,fun hge2=>?_⟩
   ·have hg0:U / (V*4294967296^i)<gu:=by rw [yni hPi,<- eg]; exact hlt
    have hgp:0<gu:=yl2 (ylk _) hg0;obtain ⟨g',rfl⟩:∃ g',gu=g'+1:=⟨gu - 1,by clear hg0 hge g1; omega⟩;simp only [ei];refine zac (zqv (lb V) (32*i) (by omega)) (by simp [go_sem]) ?_;simp [z80,go_sem];have hlen2:=zav (n:=V*(g'+1)*4294967296^i) (k:=nv+1+i) (by
     rw [ykm,ykk];exact Nat.mul_lt_mul_of_pos_right (ylp (by rw [<- hnv']; exact zij V) (by omega)) (hp i))
    have hle3:V*4294967296^i<=V*(g'+1)*4294967296^i:=by rw [eg]; exact yo7 _ (by omega)
    refine zac (zlp (lb (V*(g'+1)*4294967296^i)) (lb (V*4294967296^i)) (by omega) (by simpa using hle3)) (by simp [go_sem]) ?_;simp [go_sem];refine hn2 g' _ (Weak.to [4,8,9,10,11,13,14] [((1,0),1)] ?_) ⟨Nat.le_of_lt_succ hg0,by clear hg0 hge g1; omega⟩ (by simp);have e9:((g':Int)+1 - 1) % 18446744073709551616=g':=by omega
    have e10:V*(g'+1)*4294967296^i - V*4294967296^i=V*g'*4294967296^i:=by rw [Nat.mul_succ,ykp]; omega
    simp [e10,go_sem]; omega
   ·refine hx2 _ _ ?_;have hgd:gu=U / (V*4294967296^i):=by
     have:gu<=U / (V*4294967296^i):=by rw [yoq hPi,<- eg]; exact hge2
     omega
    simp [go_sem];have hUl:=zav (n:=U) (k:=nv+(i+1)) (Nat.lt_of_lt_of_le h2 (by rw [Nat.pow_add (m:=nv)]; exact Nat.mul_le_mul_right _ (Nat.le_of_lt (by rw [<- hnv']; exact zij V))));refine zac (zlp (lb U) (lb (V*gu*4294967296^i)) (by omega) (by simpa using hge2)) (by simp [go_sem]) ?_;simp [go_sem];refine ⟨⟨by omega,by omega⟩,?_⟩;rw [zbt];refine zae (by simp; omega) ?_;simp [go_sem];obtain ⟨z',hz'⟩:∃ z':UInt32,z'.toNat=gu:=⟨UInt32.ofNat gu,by rw [zaw]; omega⟩;have ez':(gu:Int) % 4294967296=(z'.toNat:Int):=by omega
    have ei2:IntKind.i64.wrap ((i:Int) - 1)=(i:Int) - 1:=i64w (by omega) (by omega);rw [ez',ei2];have hset:(List.replicate (i+1) (AV.p (.int .u32 0))).set i (AV.p (.int .u32 z'.toNat))=List.replicate i (AV.p (.int .u32 0))++[AV.p (.int .u32 z'.toNat)]:=by rw [yor,yo8 _ _ (by simp)]; simp
    refine hn (i,U - V*gu*4294967296^i,z'::hi) _ (Weak.to [4,8,9,10,11] [((1,0),1)] (by simp [hset,go_sem])) ⟨by simp; omega,?_,?_⟩ (by simp)
    ·simp only;rw [eg,hgd];have:=yo6 U (V*4294967296^i);have h9:=ymv U hPi;rw [ykz] at this;omega
    ·simp only [zbo,hz'];rw [h3,ylh,<- Nat.mul_assoc,ykk,eg];rw [eg] at hge2;have e11:V*4294967296^i*gu=gu*(V*4294967296^i):=ykz _ _;have e12:V*(4294967296^i*4294967296)=V*4294967296^i*4294967296:=by rw [yko]
     rw [e11,e12];omega
open Enc (enc)
structure GRat where
 neg:Bool
 num:List UInt32
 den:List UInt32
instance:Enc GRat:=⟨fun x=>.agg [.bool x.neg,.sl (ens x.num),.sl (ens x.den)],3,by decide,fun _=>rfl⟩
@[go_sem] theorem yiz (x:GRat):enc x=.agg [.bool x.neg,.sl (ens x.num),.sl (ens x.den)]:=rfl
@[go_sem] theorem yfe:Enc.sz GRat=3:=rfl
instance (l:List UInt32):Decidable (zbj l):=inferInstanceAs (Decidable (¬ _))
def GRat.valid (x:GRat):Bool :=
 decide (zbj x.num)&&decide (zbj x.den)&&(if x.num=[] then !x.neg&&decide (x.den=[]) else decide (x.den=[]\/(val x.den≠1/\Nat.gcd (val x.num) (val x.den)=1)))
def GRat.sm (x:GRat) (n:Nat):Prop:=x.num.length<=n/\x.den.length<=n
@[simp] theorem yf7:zbj []:=by simp [zbj]
theorem z88 (a b:List UInt32) (hl:a.length<=4194304) (hl2:b.length<=4194304) (ha:zbj a) (hb:zbj b):Sp P F.i9 [.sl (ens a),.sl (ens b)] (.pure (.sl (ens (lb (Nat.gcd (val a) (val b)))))):=by
 refine Sp.vz c.i9 fun _=>?_;simp [g.i9,go_sem];refine zai (S:=fun x:List UInt32 × List UInt32=>mkSt [(0,.p (.sl (ens x.1))),(1,.p (.sl (ens x.2)))] []) (I:=fun x=>x.1.length<=4194304/\x.2.length<=4194304/\zbj x.1/\zbj x.2/\Nat.gcd (val x.1) (val x.2)=Nat.gcd (val a) (val b)) (m:=fun x=>val x.2) (a,b) (Weak.of (keep:=[0,1]) (ids:=[]) rfl) ⟨hl,hl2,ha,hb,rfl⟩ ?_;rintro ⟨x,y⟩ ⟨h1,h2,h3,h4,h5⟩ R hn hr hx;simp at h1 h2 h3 h4 h5;simp [g.sc,go_sem];refine ⟨fun h=>?_,fun h=>hx _ _ ?_⟩
 ·have hy:val y≠0:=fun h0=>by rw [<- zcl h4,h0] at h; simp at h
  refine zac (zuw x y h1 h2 hy h4) rfl ?_;simp [go_sem];have hlt:=Nat.mod_lt (val x) (Nat.pos_of_ne_zero hy);have hlen:=zav (Nat.lt_trans hlt (zcd y));refine hn (y,lb (val x % val y)) _ (Weak.of (keep:=[0,1]) (ids:=[]) rfl) ⟨h2,by simp only; omega,h4,zbr _,?_⟩ (by simpa using hlt);simp only [zoj];rw [<- h5,Nat.gcd_comm (val x),Nat.gcd_rec (val y) (val x),Nat.gcd_comm]
 ·subst h;simp at h5;simp [go_sem];rw [<- h5,zcl h3]
theorem zmo:Sp P F.ff [] (.pure (.sl (ens [(1:UInt32)]))):=by refine Sp.vz c.ff fun _=>?_;simp [g.ff,go_sem]
theorem zse (a:List UInt32):Sp P F.l7 [.sl (ens a)] (.pure (.bool (decide (zbj a)))):=by
 refine Sp.vz c.l7 fun hs=>?_;have hl:=zig hs.1;have e:IntKind.i64.wrap (↑a.length - 1) = ↑a.length - 1:=i64w (by omega) (by omega);have e2:((a.length:Int) - 1).toNat=a.length - 1:=by omega
 simp [g.l7,e,e2,go_sem];refine ⟨fun h=>by subst h; simp [zbj],fun h=>?_⟩;have hp:=List.length_pos_iff.2 h;refine zae (by omega) ⟨by omega,?_⟩;have hx:(a[a.length - 1].toNat=0) ↔ ¬ zbj a:=by simp only [zbj,List.getLast?_eq_getElem?,List.getElem?_eq_getElem (show a.length - 1<a.length by omega)];simp;exact ⟨fun h=>zgx (by simpa using h),fun h=>by rw [h]; rfl⟩
 by_cases hc:zbj a<;>simp [hc,hx]
theorem zj2:val [(1:UInt32)]=1:=rfl
theorem zmb (x:GRat) (hx:x.sm 4194304):Sp P F.d9 [enc x] (.pure (.bool x.valid)):=by
 obtain ⟨h1,h2⟩:=hx;refine Sp.vz c.d9 fun _=>?_;simp [g.d9,go_sem];refine zac (zse x.num) rfl ?_;simp [go_sem];refine ⟨fun h3=>?_,fun h3=>?_⟩
 ·refine zac (zse x.den) rfl ?_;simp [go_sem];refine ⟨fun h4=>?_,fun h4=>?_⟩
  ·refine ⟨fun h5=>?_,fun h5=>⟨fun h6=>?_,fun h6=>?_⟩⟩
   ·rw [zgy];refine ⟨fun h6=>?_,fun h6=>?_⟩
    ·simp [go_sem,GRat.valid,h3,h4,h5,h6]
    ·simp [go_sem,GRat.valid,h3,h4,h5,h6]
   ·simp [GRat.valid,h3,h5,h6]
   ·refine zaf zmo zcv ?_;simp [go_sem];refine zaf (znt x.den [1]) rfl ?_;simp [zhk,zj2,go_sem];refine ⟨fun h7=>?_,fun h7=>?_⟩
    ·simp [GRat.valid,h3,h4,h5,h6,h7]
    ·refine zaf (z88 x.num x.den h1 h2 h3 h4) rfl ?_;simp [go_sem];refine zaf zmo zcv ?_;simp [go_sem];refine zaf (znt _ [1]) rfl ?_;simp [zhk,zj2,go_sem];simp [GRat.valid,h3,h4,h5,h6,h7]
  ·simp [GRat.valid,h3,h4]
 ·simp [GRat.valid,h3]
def sgn (neg:Bool) (n:Nat):Int:=if neg then -(n:Int) else n
def GRat.v (x:GRat):Rat:=if x.valid then mkRat (sgn x.neg (val x.num)) (if x.den=[] then 1 else val x.den) else 0
def rto (q:Rat):GRat:=⟨decide (q.num<0),lb q.num.natAbs,if q.den=1 then [] else lb q.den⟩
structure Fr where
 neg:Bool
 n:Nat
 d:Nat
def Fr.e (f:Fr):GRat:=⟨f.neg,lb f.n,lb f.d⟩
def Fr.v (f:Fr):Rat:=mkRat (sgn f.neg f.n) f.d
def frq (q:Rat):Fr:=⟨decide (q.num<0),q.num.natAbs,q.den⟩
theorem zor (z:Int):sgn (decide (z<0)) z.natAbs=z:=by unfold sgn; split<;>simp_all<;>omega
theorem zjm (q:Rat):(frq q).v=q:=by simp [Fr.v,frq,zor,Rat.mkRat_self]
theorem zes (b:Bool) (n:Nat):(sgn b n).natAbs=n:=by unfold sgn; split<;>simp
theorem zle {x:GRat} (h:x.valid=true) (hn:x.num≠[]) (hd:x.den≠[]):val x.den≠1/\Nat.gcd (val x.num) (val x.den)=1:=by simp [GRat.valid,hn,hd] at h; exact h.2
theorem znx {l:List UInt32} (h:zbj l):val l=0 ↔ l=[]:=⟨fun h0=>by rw [<- zcl h,h0]; simp,fun h0=>by rw [h0]; rfl⟩
theorem zg4 {x:GRat} (h:x.valid=true):rto x.v=x:=by
 have hv:x.v=mkRat (sgn x.neg (val x.num)) (if x.den=[] then 1 else val x.den):=by simp [GRat.v,h]
 have hc:zbj x.num/\zbj x.den:=by simp [GRat.valid] at h; exact ⟨h.1.1,h.1.2⟩
 obtain ⟨neg,num,den⟩:=x;simp only at hv hc;by_cases hn:num=[]
 ·subst hn;simp [GRat.valid] at h;obtain ⟨_,rfl,rfl⟩:=h;rw [hv]; simp [rto,sgn]
 ·have hn0:val num≠0:=fun h0=>hn ((znx hc.1).1 h0);have hsg:(sgn neg (val num))≠0:=by unfold sgn; split<;>omega
  have hdec:decide (sgn neg (val num)<0)=neg:=by unfold sgn; cases neg<;>simp; omega
  by_cases hd:den=[]
  ·subst hd;rw [hv];simp only [yk0];have e:mkRat (sgn neg (val num)) 1=((sgn neg (val num):Int):Rat):=by simp [Rat.mkRat_one]
   rw [e];simp only [rto,Rat.num_intCast,Rat.den_intCast,yk0,zes,zcl hc.1]
   congr 1
  ·have hcop:=zle h hn hd;simp only at hcop;have hd0:val den≠0:=fun h0=>hd ((znx hc.2).1 h0);rw [hv,yj8 hd];have hq:mkRat (sgn neg (val num)) (val den)=⟨sgn neg (val num),val den,hd0,by rw [zes]; exact hcop.2⟩:=by rw [Rat.mk_eq_mkRat]
   rw [hq];simp only [rto,yj8 hcop.1,zes,zcl hc.1,zcl hc.2,hdec]
theorem zd1 (q:Rat):(frq q).d≠0:=q.den_nz
theorem zby (q:Rat):(rto q).valid=true:=by
 have h1:(lb q.num.natAbs=[]) ↔ q.num=0:=by simp
 simp only [GRat.valid,rto,decide_true,yo9,zbr];by_cases hz:q.num=0
 ·have:q.den=1:=by have:=q.reduced; rw [hz] at this; simpa [Nat.Coprime] using this
  have hl:=h1.2 hz;simp [hl,hz,this]
 ·have hl:¬ lb q.num.natAbs=[]:=fun h=>hz (h1.1 h);by_cases hd:q.den=1
  ·simp [hd,hz]
  ·have hr:Nat.gcd q.num.natAbs q.den=1:=q.reduced;simp [hd,zbr,hr,hz]
theorem zbv (q:Rat):(rto q).v=q:=by
 rw [GRat.v,yj9 (zby q)];have hden:(if (rto q).den=[] then 1 else val (rto q).den)=q.den:=by
  simp only [rto];by_cases hd:q.den=1
  ·simp [hd]
  ·have:q.den≠0:=q.den_nz;simp [hd,this]
 rw [hden];simp only [rto,zoj,zor,Rat.mkRat_self]
theorem z94 {p q:Rat} (h:rto p=rto q):p=q:=by rw [<- zbv p,h,zbv]
theorem zix {x:GRat} (h:x.valid=false):x.v=0:=by simp [GRat.v,h]
theorem zb7:rto 0=⟨false,[],[]⟩:=by simp [rto]
theorem z92 {b:Bool} {n g:Nat} (h:g ∣ n):sgn b n / (g:Int)=sgn b (n / g):=by
 unfold sgn;cases b
 ·simp
 ·simp only [yk0];rw [Int.neg_ediv_of_dvd (Int.natCast_dvd_natCast.2 h)]; simp
theorem z91 {b:Bool} {n:Nat} (h:n≠0):decide (sgn b n<0)=b:=by unfold sgn; cases b<;>simp; omega
theorem z07 {f:Fr} (hd:f.d≠0) (hn:f.n≠0):rto f.v=⟨f.neg,lb (f.n / Nat.gcd f.n f.d),if f.d / Nat.gcd f.n f.d=1 then [] else lb (f.d / Nat.gcd f.n f.d)⟩:=by
 have hg:0<Nat.gcd f.n f.d:=ypa _ (by omega);have e1:f.v.num=sgn f.neg (f.n / Nat.gcd f.n f.d):=by rw [Fr.v,Rat.num_mkRat,yj8 hd,zes,Nat.gcd_comm,z92 (Nat.gcd_dvd_left _ _)]
 have e2:f.v.den=f.d / Nat.gcd f.n f.d:=by rw [Fr.v,Rat.den_mkRat,yj8 hd,zes,Nat.gcd_comm]
 have h3:f.n / Nat.gcd f.n f.d≠0:=by have:=Nat.div_pos (Nat.gcd_le_left f.d (by omega:0<f.n)) hg; omega
 simp only [rto,e1,e2,zes,z91 h3]
theorem zl3 {f:Fr} (hn:f.n=0):f.v=0:=by simp [Fr.v,hn,sgn]
theorem zxt:(frq 0).e=⟨false,[],[1]⟩:=by simp [frq,Fr.e,zm4]
theorem znh {x:GRat} (h:x.valid=true):(frq x.v).e=⟨x.neg,x.num,if x.den=[] then [1] else x.den⟩:=by have e:=zg4 h;generalize x.v=q at e;subst e;have:q.den≠0:=q.den_nz;by_cases hd:q.den=1<;>simp [frq,Fr.e,rto,hd,zm4,this]
theorem zu0 (x:GRat) (hx:x.sm 4194304):Sp P F.de [enc x] (.pure (enc (frq x.v).e)):=by
 refine Sp.vz c.de fun _=>?_;simp [g.de,go_sem];refine zac (zmb x hx) rfl ?_;simp [go_sem];rw [zgy];refine ⟨fun h=>?_,fun h=>?_⟩
 ·simp [go_sem];rw [znh h];refine ⟨fun h3=>?_,fun h3=>?_⟩
  ·refine zaf zmo zcv ?_;simp [h3,go_sem]
  ·simp [h3,go_sem]
 ·simp [go_sem];refine zac zmo zcv ?_;simp [zix h,zxt,go_sem]
theorem zq9 (f:Fr) (hd:f.d≠0) (hx:f.e.sm 4194304):Sp P F.dg [enc f.e] (.pure (enc (rto f.v))):=by
 obtain ⟨h1,h2⟩:=hx;simp only [Fr.e] at h1 h2;refine Sp.vz c.dg fun _=>?_;simp [g.dg,Fr.e,go_sem];refine ⟨fun h=>?_,fun h=>?_⟩
 ·simp [zl3 h,zb7,go_sem]
 ·have hg:=ypa f.d (yn8 h);refine zaf (zla _ (by omega)) rfl ?_;simp [go_sem];refine zaf (zla _ (by omega)) rfl ?_;simp [go_sem];refine zac (z88 _ _ h1 h2 (zbr _) (zbr _)) rfl ?_;simp [go_sem];refine zac zmo zcv ?_;simp [go_sem];refine zac (znt _ [1]) rfl ?_;have hlg:(lb (Nat.gcd f.n f.d)).length<=4194304:=by refine yka (zav (n:=Nat.gcd f.n f.d) (k:=(lb f.n).length) ?_) h1;exact yl2 (Nat.gcd_le_left _ (yn8 h)) (zij _)
  rw [z07 hd h];simp [zhk,zj2,go_sem];refine ⟨fun h5=>?_,fun h5=>?_⟩
  ·refine zac zmo zcv ?_;simp [go_sem];refine zac (znt _ [1]) rfl ?_;simp [zhk,zj2,h5,go_sem];refine ⟨fun h6=>?_,fun h6=>?_⟩<;>simp [h6,go_sem]
  ·refine zac (zuw (lb f.n) (lb (Nat.gcd f.n f.d)) h1 hlg (by simp; omega) (zbr _)) rfl ?_;simp [go_sem];refine zac (zuw (lb f.d) (lb (Nat.gcd f.n f.d)) h2 hlg (by simp; omega) (zbr _)) rfl ?_;simp [go_sem];refine zac zmo zcv ?_;simp [go_sem];refine zac (znt _ [1]) rfl ?_;simp [zhk,zj2,h5,go_sem];refine ⟨fun h6=>?_,fun h6=>?_⟩<;>simp [h6,go_sem]
def fadd (f g:Fr):Fr :=
 if f.neg=g.neg then ⟨f.neg,f.n*g.d+g.n*f.d,f.d*g.d⟩
 else if g.n*f.d<=f.n*g.d then ⟨f.neg,f.n*g.d - g.n*f.d,f.d*g.d⟩ else ⟨g.neg,g.n*f.d - f.n*g.d,f.d*g.d⟩
def fmul (f g:Fr):Fr:=⟨f.neg != g.neg,f.n*g.n,f.d*g.d⟩
theorem z04 (b:Bool) (n d:Nat):sgn b n*(d:Int)=sgn b (n*d):=by unfold sgn; cases b<;>simp [Int.neg_mul]
theorem zs8 {f g:Fr} (hf:f.d≠0) (hg:g.d≠0):(fadd f g).v=f.v+g.v:=by
 unfold Fr.v;rw [Rat.mkRat_add_mkRat _ _ hf hg,z04,z04];unfold fadd;generalize f.n*g.d=A;generalize g.n*f.d=B;cases h1:f.neg<;>cases h2:g.neg<;>simp [sgn]
 ·split<;>simp<;>congr 1<;>omega
 ·split<;>simp<;>congr 1<;>omega
 ·congr 1; omega
theorem z3n (f g:Fr):(fmul f g).v=f.v*g.v:=by
 unfold Fr.v;rw [Rat.mkRat_mul_mkRat];simp only [fmul]
 congr 1
 unfold sgn; cases f.neg<;>cases g.neg<;>simp [Int.neg_mul,Int.mul_neg]
theorem zs9 {f g:Fr} (hf:f.d≠0) (hg:g.d≠0):(fadd f g).d≠0:=by
 have:(fadd f g).d=f.d*g.d:=by unfold fadd; split<;>(try split)<;>rfl
 rw [this]; exact ym9 hf hg
theorem zdi {x:GRat} {n:Nat} (h:x.sm n) (hn:1<=n):(frq x.v).e.sm n:=by
 by_cases hv:x.valid=true
 ·rw [znh hv];refine ⟨h.1,?_⟩;simp only; split
  ·simpa using hn
  ·exact h.2
 ·rw [zix (by simpa using hv),zxt]; exact ⟨by simp,by simpa using hn⟩
theorem zez {m n a b:Nat} (h1:(lb m).length<=a) (h2:(lb n).length<=b):(lb (m*n)).length<=a+b:=by refine zav ?_;rw [ykm];exact ylp (ykc (zij m) (yl3 (by omega) h1)) (ykc (zij n) (yl3 (by omega) h2))
theorem zqu {m n:Nat} (h:m<=n):(lb m).length<=(lb n).length:=zav (yl2 h (zij n))
theorem zkd {m n a:Nat} (h1:(lb m).length<=a) (h2:(lb n).length<=a):(lb (m+n)).length<=a+1:=by refine zav ?_;have:=ykc (zij m) (yl3 (n:=4294967296) (by omega) h1);have:=ykc (zij n) (yl3 (n:=4294967296) (by omega) h2);rw [ykk]; omega
theorem znm {f g:Fr} {n:Nat} (hf:f.e.sm n) (hg:g.e.sm n):(fadd f g).e.sm (n+n+1):=by
 obtain ⟨a,b⟩:=hf;obtain ⟨c,d⟩:=hg;simp only [Fr.e] at a b c d;have h1:=zez a d;have h2:=zez c b;have h3:=zez b d;unfold fadd;split
 ·exact ⟨zkd h1 h2,by simp only [Fr.e]; omega⟩
 ·split
  ·exact ⟨by have:=zqu (Nat.sub_le (f.n*g.d) (g.n*f.d)); simp only [Fr.e]; omega,by simp only [Fr.e]; omega⟩
  ·exact ⟨by have:=zqu (Nat.sub_le (g.n*f.d) (f.n*g.d)); simp only [Fr.e]; omega,by simp only [Fr.e]; omega⟩
theorem zve {f g:Fr} {n:Nat} (hf:f.e.sm n) (hg:g.e.sm n):(fmul f g).e.sm (n+n):=⟨zez hf.1 hg.1,zez hf.2 hg.2⟩
theorem GRat.sm.mono {x:GRat} {m n:Nat} (h:x.sm m) (hmn:m<=n):x.sm n:=⟨yka h.1 hmn,yka h.2 hmn⟩
theorem zxu (u w:Fr) (hf:u.e.sm 1048576) (hg:w.e.sm 1048576):Sp P F.jc [enc u.e,enc w.e] (.pure (enc (fadd u w).e)):=by
 have h1:=zez hf.1 hg.2;have h2:=zez hg.1 hf.2;have h3:=zez hf.2 hg.2;obtain ⟨a1,a2⟩:=hf;obtain ⟨b1,b2⟩:=hg;simp only [Fr.e] at a1 a2 b1 b2;refine Sp.vz c.jc fun _=>?_;simp [g.jc,Fr.e,go_sem];refine zaf (zhq (lb u.n) (lb w.d) (by omega) (by omega)) rfl ?_;simp [go_sem];refine zaf (zhq (lb w.n) (lb u.d) (by omega) (by omega)) rfl ?_;simp [go_sem];refine zaf (zhq (lb u.d) (lb w.d) (by omega) (by omega)) rfl ?_;simp [go_sem];refine ⟨fun h=>?_,fun h=>?_⟩
 ·refine zaf (yah (lb (u.n*w.d)) (lb (w.n*u.d)) (by omega) (by omega)) rfl ?_;simp [h,fadd,go_sem]
 ·refine zac (znt (lb (u.n*w.d)) (lb (w.n*u.d))) rfl ?_;simp [zdo,zh5,go_sem];refine ⟨fun h'=>?_,fun h'=>?_⟩
  ·refine zaf (zlp (lb (u.n*w.d)) (lb (w.n*u.d)) (by omega) (by simpa using h')) rfl ?_;simp [h,h',fadd,go_sem]
  ·refine zaf (zlp (lb (w.n*u.d)) (lb (u.n*w.d)) (by omega) (by simp; omega)) rfl ?_;have h'':¬ (w.n*u.d<=u.n*w.d):=Nat.not_le.2 h';simp [h,h'',fadd,go_sem]
theorem zmj (x y:GRat) (hx:x.sm 1048576) (hy:y.sm 1048576):Sp P F.ej [enc x,enc y] (.pure (enc (rto (x.v+y.v)))):=by have h1:=zdi hx (by omega);have h2:=zdi hy (by omega);refine Sp.vz c.ej fun _=>?_;simp [g.ej,go_sem];refine zaf (zu0 x (hx.mono (by omega))) rfl ?_;simp [go_sem];refine zaf (zu0 y (hy.mono (by omega))) rfl ?_;simp [go_sem];refine zaf (zxu _ _ h1 h2) rfl ?_;simp [go_sem];refine zaf (zq9 _ (zs9 (zd1 _) (zd1 _)) ((znm h1 h2).mono (by omega))) rfl ?_;simp [zs8,zd1,zjm,go_sem]
theorem z1a (x y:GRat) (hx:x.sm 1048576) (hy:y.sm 1048576):Sp P F.iy [enc x,enc y] (.pure (enc (rto (x.v*y.v)))):=by
 have h1:=zdi hx (by omega);have h2:=zdi hy (by omega);have h3:=zve h1 h2;have h4:(fmul (frq x.v) (frq y.v)).d≠0:=ym9 (zd1 _) (zd1 _);obtain ⟨a1,a2⟩:=h1;obtain ⟨b1,b2⟩:=h2;simp only [Fr.e] at a1 a2 b1 b2;refine Sp.vz c.iy fun _=>?_;simp [g.iy,go_sem];refine zaf (zu0 x (hx.mono (by omega))) rfl ?_;simp [go_sem];refine zaf (zu0 y (hy.mono (by omega))) rfl ?_;simp [Fr.e,go_sem];refine zaf (zhq _ _ (by omega) (by omega)) rfl ?_;simp [go_sem];refine zaf (zhq _ _ (by omega) (by omega)) rfl ?_;simp [go_sem];refine zaf (zq9 (fmul (frq x.v) (frq y.v)) h4 (h3.mono (by omega))) ?_ ?_
 ·simp [fmul,Fr.e,bne,go_sem]
 ·simp [z3n,zjm,go_sem]
def fneg (u:Fr):Fr:=⟨!u.neg,u.n,u.d⟩
theorem zu3 (u:Fr):Sp P F.mi [enc u.e] (.pure (enc (fneg u).e)):=by refine Sp.vz c.mi fun _=>?_;simp [g.mi,fneg,Fr.e,go_sem]
theorem z3m (u:Fr):(fneg u).v = - u.v:=by unfold Fr.v fneg; rw [Rat.neg_mkRat]; congr 1; unfold sgn; cases u.neg<;>simp
theorem z96 (x y:GRat) (hx:x.sm 1048576) (hy:y.sm 1048576):Sp P F.l8 [enc x,enc y] (.pure (enc (rto (x.v - y.v)))):=by have h1:=zdi hx (by omega);have h2:=zdi hy (by omega);have h3:(fneg (frq y.v)).e.sm 1048576:=h2;refine Sp.vz c.l8 fun _=>?_;simp [g.l8,go_sem];refine zaf (zu0 x (hx.mono (by omega))) rfl ?_;simp [go_sem];refine zaf (zu0 y (hy.mono (by omega))) rfl ?_;simp [go_sem];refine zaf (zu3 (frq y.v)) rfl ?_;simp [go_sem];refine zaf (zxu (frq x.v) (fneg (frq y.v)) h1 h3) rfl ?_;simp [go_sem];refine zaf (zq9 (fadd (frq x.v) (fneg (frq y.v))) (zs9 (zd1 _) (zd1 y.v)) ((znm h1 h3).mono (by omega))) rfl ?_;have e:=zs8 (f:=frq x.v) (g:=fneg (frq y.v)) (zd1 _) (zd1 y.v);simp [e,zjm,z3m,yos,go_sem]
def sgnR (q:Rat):Int:=if q.num=0 then 0 else if q.num<0 then -1 else 1
theorem zll (x:GRat) (hx:x.sm 4194304):Sp P F.cn [enc x] (.pure (.int .i64 (sgnR x.v))):=by refine Sp.vz c.cn fun _=>?_;simp [g.cn,go_sem];refine zac (zu0 x hx) rfl ?_;simp [Fr.e,frq,sgnR,go_sem];refine ⟨fun h=>by simp [h],fun h=>⟨fun h'=>by simp [h,h'],fun h'=>by simp [h]; omega⟩⟩
theorem z21 {n d:Nat}:(lb (n / d)).length<=(lb n).length:=zqu (yn6 _ _)
theorem zi6 {f:Fr} {n:Nat} (hd:f.d≠0) (h:f.e.sm n):(rto f.v).sm n:=by
 by_cases hn:f.n=0
 ·rw [zl3 hn,zb7]; exact ⟨by simp,by simp⟩
 ·rw [z07 hd hn];refine ⟨yka z21 h.1,?_⟩;simp only; split
  ·simp
  ·exact yka z21 h.2
theorem zmi (x y:GRat) (hx:x.sm 1048576) (hy:y.sm 1048576):Sp P F.iz [enc x,enc y] (.pure (.int .i64 (sgnR (x.v - y.v)))):=by
 have h1:=zdi hx (by omega);have h2:=zdi hy (by omega);have h3:(fneg (frq y.v)).e.sm 1048576:=h2;have h4:(rto (x.v - y.v)).sm 4194304:=by have e:=zs8 (f:=frq x.v) (g:=fneg (frq y.v)) (zd1 _) (zd1 y.v);rw [zjm,z3m,zjm,<- Rat.sub_eq_add_neg] at e;rw [<- e];exact zi6 (zs9 (zd1 _) (zd1 y.v)) ((znm h1 h3).mono (by omega))
 refine Sp.vz c.iz fun _=>?_;simp [g.iz,go_sem];refine zac (z96 x y hx hy) rfl ?_;simp [go_sem];refine zac (zll (rto (x.v - y.v)) h4) rfl ?_;simp [zbv,go_sem]
theorem zv7 (v:Int) (h1 : -9223372036854775808<=v) (h2:v<=9223372036854775807):Sp P F.mg [.int .i64 v] (.pure (.tup [.bool (decide (v<0)),.sl (ens (lb v.natAbs))])):=by
 refine Sp.vz c.mg fun _=>?_;simp [g.mg,go_sem];obtain ⟨z1,hz1⟩:∃ z:UInt32,z.toNat=v.natAbs % 4294967296:=⟨_,zaw _⟩;obtain ⟨z2,hz2⟩:∃ z:UInt32,z.toNat=v.natAbs / 4294967296 % 4294967296:=⟨_,zaw _⟩;have hv:val [z1,z2]=v.natAbs:=by simp only [zbo,z0d,hz1,hz2]; omega
 refine ⟨fun h=>?_,fun h=>?_⟩
 ·have e1:(-(v % 18446744073709551616)) % 4294967296=(z1.toNat:Int):=by omega
  have e2:(-(v % 18446744073709551616)) % 18446744073709551616 / 4294967296 % 4294967296=(z2.toNat:Int):=by omega
  simp only [e1,e2];refine zac (zdc [z1,z2]) (zbz (zdn rfl (by simp [go_sem]) (by simp)) zcv) ?_;rw [hv]; simp [h,go_sem]
 ·have e1:v % 4294967296=(z1.toNat:Int):=by omega
  have e2:v % 18446744073709551616 / 4294967296 % 4294967296=(z2.toNat:Int):=by omega
  simp only [e1,e2];refine zac (zdc [z1,z2]) (zbz (zdn rfl (by simp [go_sem]) (by simp)) zcv) ?_;rw [hv]; simp [h,go_sem]
theorem ztd (a b:Int):(⟨decide (a<0) != decide (b<0),a.natAbs,b.natAbs⟩:Fr).v=Rat.divInt a b:=by
 simp only [Fr.v];rcases (by omega:b<0\/0<=b) with hb|hb
 ·have e:Rat.divInt a b=mkRat (-a) b.natAbs:=by rw [<- Rat.divInt_ofNat,<- Rat.neg_divInt_neg]; congr 1; omega
  rw [e]; congr 1; unfold sgn; by_cases ha:a<0<;>simp [ha,hb]<;>omega
 ·have e:Rat.divInt a b=mkRat a b.natAbs:=by rw [<- Rat.divInt_ofNat]; congr 1; omega
  have hb':¬ b<0:=by omega
  rw [e]; congr 1; unfold sgn; by_cases ha:a<0<;>simp [ha,hb']<;>omega
theorem z59 (a b:Int) (ha : -9223372036854775808<=a/\a<=9223372036854775807) (hb : -9223372036854775808<=b/\b<=9223372036854775807) :
  Sp P F.ja [.int .i64 a,.int .i64 b] (.pure (.tup [enc (if b=0 then rto 0 else rto (Rat.divInt a b)),.int .i64 (if b=0 then 11 else 0)])):=by
 have hal:=zav (n:=a.natAbs) (k:=2) (by omega);have hbl:=zav (n:=b.natAbs) (k:=2) (by omega);refine Sp.vz c.ja fun _=>?_;simp [g.ja,go_sem];refine ⟨fun h=>by simp [h,zb7,go_sem],fun h=>?_⟩;refine zac (zv7 a ha.1 ha.2) rfl ?_;simp [go_sem];refine zac (zv7 b hb.1 hb.2) rfl ?_;simp [go_sem];refine zac (zq9 ⟨decide (a<0) != decide (b<0),a.natAbs,b.natAbs⟩ (by simpa using h) ⟨by simp only [Fr.e]; omega,by simp only [Fr.e]; omega⟩) ?_ ?_
 ·simp [Fr.e,bne,go_sem]
 ·simp [ztd,h,go_sem]
@[go_sem] theorem yir (x:UInt32):IntKind.i64.wrap (x.toNat:Int)=x.toNat:=by have:=x.toNat_lt; exact i64w (by omega) (by omega)
theorem zl5 (a:List UInt32):Sp P F.bq [.sl (ens a)] (.pure (.sl (ens (lb (val a))))):=by
 refine Sp.vz c.bq fun hs=>?_;have hl:=zig hs.1;simp [g.bq,go_sem];refine zai (S:=fun l:List UInt32=>mkSt [(0,.p (.sl (ens l)))] []) (I:=fun l=>val l=val a/\l.length<=9223372036854775807) (m:=fun l=>l.length) a (Weak.of (keep:=[0]) (ids:=[]) rfl) ⟨rfl,hl⟩ ?_;rintro l ⟨h1,h2⟩ R hn hr hx;have e:IntKind.i64.wrap (↑l.length - 1) = ↑l.length - 1:=i64w (by omega) (by omega);have e2:((l.length:Int) - 1).toNat=l.length - 1:=by omega
 simp [g.rn,mkSt,e,e2,go_sem];have out:zbj l->R (Exit.exit 0) ⟨[(0,.p (.sl (ens l)))],[(DEAD,[none])]⟩:=fun hc=>by refine hx _ _ ?_;simp [go_sem];rw [<- h1,zcl hc]
 refine ⟨fun h=>zae (by omega) ⟨by omega,fun h0=>⟨by omega,hn (l.take (l.length - 1)) _ (Weak.of (keep:=[0]) (ids:=[]) rfl) ?_ ?_⟩,fun h0=>out ?_⟩,fun h=>out ?_⟩
 ·refine ⟨?_,by simp; omega⟩;have h3:l=l.take (l.length - 1)++[0]:=by
   conv=>lhs; rw [<- List.take_append_getLast l (by intro h4; simp [h4] at h)]
   rw [List.getLast_eq_getElem,zgx (x:=l[l.length - 1]) (y:=0) (by simpa using h0)]
  rw [h3,zej] at h1;simpa using h1
 ·simp; omega
 ·intro h4;rw [List.getLast?_eq_getElem?,ykg (by omega)] at h4;simp at h4; rw [h4] at h0; exact h0 rfl
 ·subst h; simp [zbj]
theorem zqr (a:List UInt32) (i:Int) (h:0<=i):Sp P F.ip [.sl (ens a),.int .i64 i] (.pure (.int .u64 (a.getD i.toNat 0).toNat)):=by
 refine Sp.vz c.ip fun _=>?_;simp [g.ip,go_sem];refine ⟨fun h1=>?_,fun h1=>zae (by omega) ⟨h,?_⟩⟩
 ·have:a.length<=i.toNat:=by omega
  simp [this]
 ·have:i.toNat<a.length:=by omega
  simp [*]
def sgnI (v:Int):Int:=if v<0 then -1 else if 0<v then 1 else 0
theorem z02 (v:Int):Sp P F.iq [.int .i64 v] (.pure (.int .i64 (sgnI v))):=by refine Sp.vz c.iq fun _=>?_;simp [g.iq,sgnI,go_sem];refine ⟨fun h=>by omega,fun h=>⟨fun h'=>by split<;>omega,fun h'=>by split<;>omega⟩⟩
theorem zo5 (v:Nat) (h:v<18446744073709551616):Sp P F.ko [.int .u64 v] (.pure (.sl (ens (lb v)))):=by
 refine Sp.vz c.ko fun _=>?_;simp [g.ko,go_sem];obtain ⟨z1,hz1⟩:∃ z:UInt32,z.toNat=v % 4294967296:=⟨_,zaw _⟩;obtain ⟨z2,hz2⟩:∃ z:UInt32,z.toNat=v / 4294967296 % 4294967296:=⟨_,zaw _⟩;have hv:val [z1,z2]=v:=by simp only [zbo,z0d,hz1,hz2]; omega
 have e1:(v:Int) % 4294967296=(z1.toNat:Int):=by omega
 have e2:(v:Int) / 4294967296 % 4294967296=(z2.toNat:Int):=by omega
 simp only [e1,e2];refine zac (zl5 [z1,z2]) (zbz (zdn rfl (by simp [go_sem]) (by simp)) zcv) ?_;rw [hv]; simp [go_sem]
theorem zka (a:List UInt32):Sp P F.io [.sl (ens a)] (.pure (.bool (decide (a=[1])))):=by
 refine Sp.vz c.io fun _=>?_;simp [g.io,go_sem];refine ⟨fun h=>?_,fun h=>?_⟩
 ·obtain ⟨d,rfl⟩:∃ d,a=[d]:=List.length_eq_one_iff.1 (by omega);refine zae (by simp) ?_;simp;by_cases hd:d=1
  ·subst hd; simp
  ·have:d.toNat≠1:=fun h=>hd (zgx (by simpa using h));simp [hd]; omega
 ·intro h'; subst h'; simp at h
theorem zsw {a b:List UInt32} (ha:zbj a) (hb:zbj b) (h:a.length<b.length):val a<val b:=by
 have h1:=zcd a;have hb0:val b≠0:=fun h0=>by rw [(znx hb).1 h0] at h; simp at h
 have h2:=zm5 hb0;rw [zcl hb] at h2;exact ykc h1 (yka (yl3 (by omega) (by omega)) h2)
theorem zko (a b:List UInt32) (hl:a.length<=1073741824) (hl2:b.length<=1073741824) (ha:zbj a) (hb:zbj b):Sp P F.gp [.sl (ens a),.sl (ens b)] (.pure (.int .i64 (cmpN (val a) (val b)))):=by
 refine Sp.vz c.gp fun _=>?_;have e0:IntKind.i64.wrap ((a.length:Int) - b.length)=(a.length:Int) - b.length:=i64w (by omega) (by omega);have e1:IntKind.i64.wrap ((a.length:Int) - 1)=(a.length:Int) - 1:=i64w (by omega) (by omega);simp [g.gp,e0,e1,go_sem];refine ⟨fun hlen=>?_,fun hlen=>?_⟩
 ·have hlen:a.length=b.length:=by omega
  refine zai (S:=fun k:Nat=>mkSt [(0,.p (.sl (ens a))),(1,.p (.sl (ens b))),(5,.p (.int .i64 ((k:Int) - 1)))] []) (I:=fun k=>k<=a.length/\val a / 4294967296^k=val b / 4294967296^k) (m:=fun k=>k) a.length (Weak.of (keep:=[0,1,5]) (ids:=[]) rfl) ⟨yk6 _,by rw [zf9 _ (by omega),zf9 _ (by omega)]⟩ ?_;rintro k ⟨h1,h2⟩ R hn hr hx;have e2:((k:Int) - 1).toNat=k - 1:=by omega
  have e3:IntKind.i64.wrap ((k:Int) - 1 - 1)=((k - 1:Nat):Int) - 1\/k=0:=by
   rcases ymo k with h|h
   ·exact .inr h
   ·left; rw [i64w (by omega) (by omega)]; omega
  simp [g.rd,mkSt,e2,go_sem];refine ⟨fun hk=>zae (by omega) ⟨by omega,zae (by omega) ?_⟩,fun hk=>?_⟩
  ·have e3:=e3.resolve_right (by omega);have d1:=zgl a (k - 1);have d2:=zgl b (k - 1);rw [show k - 1+1=k by omega] at d1 d2;have u1:=za5 a[k - 1];have u2:=za5 b[k - 1];simp [show k - 1<a.length by omega,show k - 1<b.length by omega] at d1 d2;refine ⟨by omega,fun heq=>?_,fun hne=>zae (by omega) ⟨by omega,zae (by omega) ⟨by omega,?_⟩⟩⟩
   ·rw [e3];exact hn (k - 1) _ (Weak.of (keep:=[0,1,5]) (ids:=[]) rfl) ⟨by omega,by omega⟩ (by omega)
   ·have hw:IntKind.i64.wrap ((a[k - 1].toNat:Int) - b[k - 1].toNat)=(a[k - 1].toNat:Int) - b[k - 1].toNat:=i64w (by omega) (by omega);rw [hw];refine zaf (z02 _) rfl ?_;simp [go_sem];refine hr _ ?_;simp [sgnI,go_sem];have hlt:val a / 4294967296^(k - 1)<val b / 4294967296^(k - 1)\/val b / 4294967296^(k - 1)<val a / 4294967296^(k - 1):=by omega
    rcases hlt with h|h
    ·have:=zjv h;simp only [cmpN]; (repeat' split)<;>omega
    ·have:=zjv h;simp only [cmpN]; (repeat' split)<;>omega
  ·refine hx _ _ ?_;have:k=0:=by omega
   subst this;simp at h2;simp [cmpN,h2,go_sem]
 ·refine zac (z02 _) rfl ?_;simp [sgnI,go_sem];rcases yla a.length b.length with h|h
  ·have:=zsw ha hb h;rw [yj9 (by omega),cmpN,yj9 this]
  ·have:=zsw hb ha (by omega);rw [yj8 (by omega),yj9 (by omega),cmpN,yj8 (by omega),yj8 (by omega)]
theorem zzt {v va vb s M:Nat} (h4:v+4294967296^(M+1)*s=va+vb) (h1:va<4294967296^M) (h2:vb<4294967296^M):s=0:=by
 rw [ykk] at h4;generalize 4294967296^M=p at *
 rcases ymo s with h|h
 ·exact h
 ·have:=yoj (p*4294967296) h;omega
theorem z4n (l:List UInt32) (i:Nat):val l / 2^i % 2=(l.getD (i / 32) 0).toNat / 2^(i % 32) % 2:=by
 have h1:val l / 2^i=val l / 4294967296^(i / 32) / 2^(i % 32):=by rw [zc0 i,ynh]
 rw [h1,zf8];generalize val l / 4294967296^(i / 32)=x;have hs:i % 32<32:=ymv _ (by omega);generalize i % 32=s at *
 have h:2^s*2^(32 - s)=4294967296:=by rw [<- Nat.pow_add,show s+(32 - s)=32 by omega]
 have h2:2^(32 - s)=2*2^(31 - s):=by rw [show 32 - s=31 - s+1 by omega,ykk]; omega
 have e:=yo6 x 4294967296;have e2:x=x % 4294967296+2^s*(2*(2^(31 - s)*(x / 4294967296))):=by rw [<- Nat.mul_assoc 2,<- h2,<- Nat.mul_assoc,h]; omega
 conv=>lhs; rw [e2,yop _ _ (ylf (by omega)),yp6]
theorem z3e (x i:Nat):x / 2^i=2*(x / 2^(i+1))+x / 2^i % 2:=by rw [ykk,<- Nat.div_div_eq_div_mul]; omega
theorem yeo {l:List UInt32} {i Q:Nat} (h:val l=2^(i+1)*Q) (hi:i / 32<l.length) :
  (l.getD (i / 32) 0).toNat ||| 2^(i % 32)<4294967296/\∀ z:UInt32,z.toNat=(l.getD (i / 32) 0).toNat ||| 2^(i % 32)->val (l.set (i / 32) z)=2^i*(2*Q+1):=by
 have hs:i % 32<32:=ymv _ (by omega);have hd:(l.getD (i / 32) 0).toNat=2^(i % 32+1)*(Q % 2^(31 - i % 32)):=by
  rw [zf8,h,ykk,zc0 i];have e:4294967296^(i / 32)*2^(i % 32)*2*Q=4294967296^(i / 32)*(2^(i % 32)*2*Q):=by simp only [yko]
  rw [e,Nat.mul_div_cancel_left _ (ylf (by omega)),<- Nat.pow_succ];have e2:(4294967296:Nat)=2^(i % 32+1)*2^(31 - i % 32):=by rw [<- Nat.pow_add,show i % 32+1+(31 - i % 32)=32 by omega]
  rw [e2,Nat.mul_mod_mul_left]
 have ho:(l.getD (i / 32) 0).toNat ||| 2^(i % 32)=(l.getD (i / 32) 0).toNat+2^(i % 32):=by rw [hd,ykz,z19 (yot (by omega) (by omega))]
 have hlt:=yp3 (n:=32) (za5 (l.getD (i / 32) 0)) (yot (a:=2) (by omega) hs);refine ⟨hlt,fun z hz=>?_⟩;have v:=zpu l (i / 32) z hi;rw [hz,ho,ylh] at v;have e3:4294967296^(i / 32)*2^(i % 32)=2^i:=(zc0 i).symm;have e4:2^i*(2*Q+1)=2^(i+1)*Q+2^i:=by rw [ylh,ykk,yko]; omega
 rw [e4,<- h,<- e3];omega
theorem z1o {v p sum A C x y d r:Nat} (h4:v+p*sum=A+C) (e4:x+y+sum=4294967296*d+r):v+p*r+p*4294967296*d=A+p*x+(C+p*y):=by
 have e5:p*(x+y+sum)=p*(4294967296*d+r):=by rw [e4]
 simp only [ylh,yko] at *
 omega
theorem zqa (a b:List UInt32) (hl:a.length<=1073741824) (hl2:b.length<=1073741824):Sp P F.gn [.sl (ens a),.sl (ens b)] (.pure (.sl (ens (lb (val a+val b))))):=by
 refine Sp.vz c.gn fun _=>?_;simp [g.gn,go_sem];obtain ⟨M,hM⟩:∃ M,M=max a.length b.length:=⟨_,rfl⟩
 refine zai (S:=fun x:Nat × Nat × List UInt32=>mkSt [(0,.p (.sl (ens a))),(1,.p (.sl (ens b))),(5,.own 1 0 0 x.1),(6,.p (.int .u64 x.2.1)),(7,.p (.int .i64 x.1))] [(1,⟨1,avs x.2.2⟩)])
  (I:=fun x=>x.2.2.length=x.1/\x.1<=M+1/\x.2.1<=1/\val x.2.2+4294967296^x.1*x.2.1=val (a.take x.1)+val (b.take x.1)) (m:=fun x=>M+1 - x.1) (0,0,[]) (Weak.nl 5 1 1 rfl (Weak.to [0,1,5,6,7] [((1,0),1)] (by simp [go_sem]))) ⟨rfl,by simp,by simp,by simp⟩ ?_
 rintro ⟨i,sum,out⟩ ⟨h1,h2,h3,h4⟩ R hn hr hx;simp at h1 h2 h3 h4;simp [g.rc,go_sem];refine ⟨fun h=>?_,fun h=>?_⟩
 ·refine zac (zqr _ _ (by omega)) rfl ?_;simp [go_sem];refine zac (zqr _ _ (by omega)) rfl ?_;simp [go_sem];have hi:i<=M:=by split at h<;>omega
  have e1:=i64s i (by omega);have t1:=zb6 a i;have t2:=zb6 b i;have u1:=za5 (a.getD i 0);have u2:=za5 (b.getD i 0);simp only [yk9] at t1 t2 u1 u2;generalize (a[i]?.getD 0).toNat=x at t1 u1 ⊢;generalize (b[i]?.getD 0).toNat=y at t2 u2 ⊢;obtain ⟨z,hz⟩:∃ z:UInt32,z.toNat=(x+y+sum) % 4294967296:=⟨_,zaw _⟩;have e2:((x:Int)+y+sum) % 18446744073709551616 / 4294967296=(((x+y+sum) / 4294967296:Nat):Int):=by omega
  have e3:((x:Int)+y+sum) % 4294967296=(z.toNat:Int):=by rw [hz]; omega
  rw [e1,e2,e3];refine ⟨⟨by omega,by omega⟩,hn (i+1,(x+y+sum) / 4294967296,out++[z]) _ (Weak.to [0,1,5,6,7] [((31,0),1)] (by simp [go_sem])) ⟨by simp [h1],by simp only; omega,by simp only; omega,?_⟩ (by simp only; omega)⟩;simp only;rw [zej,hz,h1,t1,t2,ykk];have e4:x+y+sum=4294967296*((x+y+sum) / 4294967296)+(x+y+sum) % 4294967296:=by omega
  exact z1o h4 e4
 ·refine hx _ _ ?_;simp [go_sem];have hi:i=M+1:=by split at h<;>omega
  subst hi;refine zac (zl5 out) (zbz (zdn rfl rfl h1.symm) zcv) ?_;rw [zdt _ (by omega),zdt _ (by omega)] at h4;have v1:=ykc (zcd a) (yl3 (n:=4294967296) (by omega) (show a.length<=M by omega));have v2:=ykc (zcd b) (yl3 (n:=4294967296) (by omega) (show b.length<=M by omega));have hs0:sum=0:=zzt h4 v1 v2;subst hs0;simp [go_sem];rw [Nat.mul_zero,ylb] at h4;rw [h4]
end Go.Ab
