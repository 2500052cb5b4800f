/-
Proofs for the law CountIsFinite, part 39. Conditions: none.
-/
import Derived.Test.YtdkocfjbmbenfaaGreatDoorDP38
import Derived.Test.YtdkocfjbmbenfaaGreatDoorDP35
import Derived.Test.YtdkocfjbmbenfaaGreatDoorDP14
import Derived.Test.YtdkocfjbmbenfaaGreatDoorDP28
set_option maxRecDepth 100000
set_option maxHeartbeats 4000000
set_option linter.all false
namespace Go.Ab
open Enc (enc)
attribute [local go_sem] zal Opd.slots
theorem zo1 (n:Nat) (hn:n<=9223372036854775807):Sp P F.du [.int .i64 n] (.pure (enc (natR n))):=by
 have h:=z1f (n:Int) 1 (by omega) (by omega)
 have e:rto (Rat.divInt (n:Int) 1)=natR n:=by
  rw [<- zic]; congr 1
  have:=Rat.divInt_ofNat (n:Int) 1
  rw [show ((1:Nat):Int)=1 from rfl] at this
  rw [this]; simp [Rat.mkRat_one]; rfl
 simp only [show ¬ ((1:Int)=0) by omega,if_false,e] at h
 refine Sp.vz c.du fun _=>?_
 simp [g.du,go_sem]
 refine zaf h ?_
 simp [go_sem]
def kArc (l:Int):GArc:=⟨0,l,0,gw0⟩
def kA:GAuto:=⟨⟨2,[]⟩,2,1,[gw0],[gw0],[kArc 1,kArc 2]⟩
theorem zla:tw gw0 5:=⟨0,false,rfl,by omega,by omega,fun h=>by cases h⟩
theorem zym:¬ gw0=GRing.zero ⟨2,[]⟩:=by
 intro h
 have:gw0.inf=(GRing.zero ⟨2,[]⟩).inf:=by rw [<- h]
 simp [GRing.zero,zul,gw0] at this
 exact Bool.false_ne_true this
theorem z41:kA.ok:=by
 refine ⟨zul,by decide,by decide,by decide,by decide,rfl,rfl,by decide,fun x hx=>?_,fun w hw=>?_,fun w hw=>?_⟩
 ·have:x=kArc 1\/x=kArc 2:=by simpa [kA] using hx
  rcases this with rfl|rfl
  ·exact ⟨by decide,by decide,by decide,by decide,by decide,by decide,zj6 zla (by omega)⟩
  ·exact ⟨by decide,by decide,by decide,by decide,by decide,by decide,zj6 zla (by omega)⟩
 ·have:w=gw0:=by simpa [kA] using hw
  subst this; exact zj6 zla (by omega)
 ·have:w=gw0:=by simpa [kA] using hw
  subst this; exact zj6 zla (by omega)
theorem z4n {a:GAuto} (ok:a.ok) (hs:SSrt GArc.key a.arcs) (hn:∀ x∈a.arcs,x.w≠a.ring.zero):a.nf=a:=by
 have hc:∀ x∈a.arcs,x.w.chk a.ring:=fun x hx=>(ok.arcs x hx).2.2.2.2.2.2
 obtain ⟨b1,b2,b3⟩:=zhm ok.ring hc
 have e:tidA a.ring a.arcs=a.arcs:=by
  rw [znf]
  exact z1w (key:=GArc.key) (wt:=GArc.w) (r:=a.ring) (fun x y h h'=>z5y.2 ⟨h,h'⟩) b1 hs (fun x hx=>(b2 x hx).1) hc (fun x hx=>(b2 x hx).2) hn fun k=>by unfold atK; rw [b3]
 cases a
 simp only [GAuto.nf] at e ⊢
 rw [e]
theorem zyg:kA.nf=kA:=by
 refine z4n z41 ?_ fun x hx=>?_
 ·show List.Pairwise _ [kArc 1,kArc 2]
  simp only [List.pairwise_cons,List.mem_singleton,forall_eq,List.not_mem_nil,false_imp_iff,implies_true,List.Pairwise.nil,and_true]
  decide
 ·have:x=kArc 1\/x=kArc 2:=by simpa [kA] using hx
  rcases this with rfl|rfl<;>exact zym
theorem zrh:zas kA.arcs 0=kA.arcs:=by simp [zas,kA,kArc]
theorem z3a:DetA kA 3:=by
 refine ⟨by omega,by omega,⟨fun w hw=>?_,fun w hw=>?_,fun x hx=>?_⟩,by decide,z41,fun x hx=>?_,?_,?_⟩
 ·have:w=gw0:=by simpa [kA] using hw
  subst this; exact zue zla
 ·have:w=gw0:=by simpa [kA] using hw
  subst this; exact zue zla
 ·have:x=kArc 1\/x=kArc 2:=by simpa [kA] using hx
  rcases this with rfl|rfl<;>exact zue zla
 ·rw [zyg] at hx
  have:x=kArc 1\/x=kArc 2:=by simpa [kA] using hx
  rcases this with rfl|rfl<;>decide
 ·refine z3i z41 ?_
  show List.Pairwise _ [kArc 1,kArc 2]
  simp [kArc]
 ·rw [zyg]
  refine zjx (fun i hi h0=>?_) _
  have:i<1:=hi
  omega
theorem z75:stN kA=0:=by
 unfold stN
 rw [zyg]
 show stA kA 1=0
 simp only [stA]
 rw [if_pos]
 ·rfl
 ·exact zym
theorem z42:∀ n,cnA kA n 0=2^n
 | 0=>by
  simp only [cnA,cn]
  rw [if_neg (show ¬ kA.fin.getD 0 kA.ring.zero=kA.ring.zero from zym)]
 | n+1=>by
  have ih:=z42 n
  simp only [cnA,cn] at ih ⊢
  rw [show zas kA.arcs 0=[kArc 1,kArc 2] from zrh]
  simp only [kArc,List.map_cons,List.map_nil,List.sum_cons,List.sum_nil,Int.toNat_zero,ih,Nat.pow_succ]
  omega
theorem kA_w (n:Nat):wcn kA 0 n=2^n:=by
 unfold wcn; rw [if_neg (by omega)]; exact z42 n
theorem ybj:bN kA 0 4=15:=by simp only [bN,kA_w]
theorem z29 (n:Nat):sumJ kA n 0 0=0/\sumJ kA n 0 1=2^n/\sumJ kA n 0 2=2^n+2^n:=by
 unfold sumJ
 rw [show zas kA.arcs 0=[kArc 1,kArc 2] from zrh]
 simp [kArc,z42]
theorem ybi:urR kA 0 4=([1,2],true):=by
 have h1:nU kA 0 4=2:=zrn (zr2 kA 0) (by omega) (by simp only [bN,kA_w]; omega) (by simp only [bN,kA_w]; omega)
 have hf:zas kA.arcs 0=[kArc 1,kArc 2]:=zrh
 have s1:=z29 1
 have s0:=z29 0
 have h2:urW kA 2 0 1=[1,2]:=by
  have e1:=znc (A:=kA) (L:=1) (q:=0) (k:=1) (j:=0) (by rw [hf]; decide) (by rw [s1.1]; omega) (by rw [s1.2.1]; omega)
  have e2:=znc (A:=kA) (L:=0) (q:=0) (k:=1) (j:=1) (by rw [hf]; decide) (by rw [s0.2.1]; omega) (by rw [s0.2.2]; omega)
  rw [show (2:Nat)=1+1 from rfl,e1]
  simp only [hf,s1.1]
  show (1:Int)::urW kA 1 0 1=_
  rw [show (1:Nat)=0+1 from rfl,e2]
  simp only [hf]
  show (1:Int)::(2:Int)::urW kA 0 0 _=_
  rfl
 unfold urR
 rw [h1,if_pos (by omega)]
 have h3:bN kA 0 2=3:=by simp only [bN,kA_w]
 rw [h3]
 show (urW kA 2 0 1,true)=_
 rw [h2]
theorem z5r (a b:Nat) (ha:a<4294967296^1048576) (hb:b<4294967296^1048576):Sp P F.dv [enc (natR a),enc (natR b)] (.pure (.int .i64 (if a<b then -1 else if b<a then 1 else 0))):=by
 have h:=zry (natR a) (natR b) (zil ha) (zil hb)
 rw [zhs] at h; exact h
theorem znj {n:Nat} (h:n<4294967296):n<4294967296^1048576:=Nat.lt_of_lt_of_le h (Nat.le_trans (Nat.le_of_eq (Nat.pow_one _).symm) (z7s 4294967296 1 1048576 (by omega) (by omega)))
theorem zu0:Sp P F.ke [] (.pure (.bool true)):=by
 have h1:=zqf z3a (n:=3) (by omega)
 rw [zyg,z75,ybj] at h1
 have h2:=zl0 z3a (k:=4) (znj (by omega))
 rw [zyg,z75,ybi] at h2
 have h3:=zo1 4 (by omega)
 have h4:=zo1 15 (by omega)
 have h5:=z5r 15 15 (znj (by omega)) (znj (by omega))
 have h6:=zwt [1,2] [1,2] (by simp)
 refine Sp.of_mr c.qf (by simp) ?_
 unfold g.qf
 generalize hR:(fun (ex:Exit) (st:St) (_:Option FA)=>retP [(0,none)] (RV.pure (.bool true)) ex st)=R
 refine MR.gseq ?_
 simp [go_sem]
 refine MR.gseq ?_
 simp [go_sem]
 refine MR.weak (st1:=mkSt [(1,.ptr 1 0 0 0)] [(1,⟨7,[.p (enc kA)]⟩)]) ((Weak.freezeTo (s:=1) (g:=0) (n:=3) [enc kA] [(9,0),(11,0),(14,0)] rfl (by simp [go_sem,kA,kArc,gw0,gr0,ens]) (by simp [go_sem]) (by simp)).trans (Weak.to [1] [((1,0),1)] (by simp [go_sem,mkSt,killAll,St.setObj]))) ?_
 generalize kA=A at *
 refine MR.of_vm ?_
 simp [go_sem,mkSt]
 refine zaf h1 ?_
 simp [go_sem]
 refine zaf h3 ?_
 simp [go_sem]
 refine zaf h2 ?_
 simp [go_sem]
 refine zaf h4 ?_
 simp [go_sem]
 refine zaf h5 ?_
 simp [go_sem]
 refine zaa h6 (by simp [go_sem,ens]) ?_
 simp [go_sem]
 subst hR
 simp [go_sem]
end Go.Ab
namespace Go.Ab
def labI (A:GAuto):Prop:=∀ q,(zas A.arcs q).Pairwise fun x y=>x.l<y.l
end Go.Ab
namespace Go.Ab
section
variable {A:GAuto} {N:Nat} (hA:CtrOk A N) (hL:labI A)
include hA hL
end
end Go.Ab
namespace Go.Ab
abbrev zrT:GW:=GRing.zero ⟨2,[]⟩
end Go.Ab
namespace Go.Ab
end Go.Ab
namespace Go.Ab
open Enc (enc)
attribute [local go_sem] zal Opd.slots
end Go.Ab
namespace Go.Ab
end Go.Ab
namespace Go.Ab
structure LabB (A:GAuto) (sy:Int):Prop where
 lo:∀ x∈A.arcs,1<=x.l
 hi:∀ x∈A.arcs,x.l<=sy
end Go.Ab
namespace Go.Ab
open Enc (enc)
attribute [local go_sem] zal Opd.slots
end Go.Ab
namespace Go.Ab
section
variable {A:GAuto} {N:Nat} (hA:CtrOk A N) (hL:labI A)
include hA hL
end
end Go.Ab
namespace Go.Ab
open Enc (enc)
attribute [local go_sem] zal Opd.slots
end Go.Ab
namespace Go.Ab
end Go.Ab
namespace Go.Ab
section
variable {A:GAuto} {N:Nat} (hA:CtrOk A N) (hL:labI A) {S:Nat} (hS:1<=S) (hB:LabB A (S:Int)) (s:Int)
include hA hL hS hB
end
end Go.Ab
namespace Go.Ab
open Enc (enc)
attribute [local go_sem] zal Opd.slots
end Go.Ab
namespace Go.Ab
open Enc (enc)
attribute [local go_sem] zal Opd.slots
end Go.Ab
set_option linter.all false
namespace Go.Ab
open Enc (enc)
section
variable {H:Type} {en:TypeId × Value->H} {w:World}
theorem rdInt (n:Nat):RdN en P w n T.int (IsC Int):=z7k ty.int
theorem rdBool (n:Nat):RdN en P w n T.bool (IsC Bool):=z34 ty.bool
theorem rdInts (n:Nat):RdN en P w n T.ints (IsC (List Int)):=z0u (fun _=>rfl) (fun _=>rfl) ty.ints ty.cell fun k _=>rdInt k
theorem gplan_one (x:GPlan):(enc x).cells.all PV.one=true:=by simp [go_sem,PV.cells]
theorem rdPlan (n:Nat):RdN en P w n T.plan (IsC GPlan):=zw2 (Ds:=[IsC Int,IsC Int,IsC Bool,IsC Bool,IsC (List Int)]) ty.plan rfl (fun m _=>⟨rdInt m,rdInt m,rdBool m,rdBool m,rdInts m,trivial⟩) fun ls h=>by
 obtain ⟨_,ls1,rfl,⟨a,rfl⟩,h1⟩:=h.cons
 obtain ⟨_,ls2,rfl,⟨b,rfl⟩,h2⟩:=h1.cons
 obtain ⟨_,ls3,rfl,⟨c,rfl⟩,h3⟩:=h2.cons
 obtain ⟨_,ls4,rfl,⟨d,rfl⟩,h4⟩:=h3.cons
 obtain ⟨_,ls5,rfl,⟨e,rfl⟩,h5⟩:=h4.cons
 obtain rfl:=h5.nil
 exact ⟨⟨a,b,c,d,e⟩,by simp [PV.cells,go_sem]⟩
end
end Go.Ab
namespace Go.Ab
open Enc (enc)
attribute [local go_sem] zal Opd.slots
def mkU (src dst:GArc->Nat) (s:List Bool × Bool) (x:GArc):List Bool × Bool:=if s.1.getD (src x) false=true/\s.1.getD (dst x) false=false then (s.1.set (dst x) true,true) else s
def pasU (src dst:GArc->Nat) (A:List GArc) (u:List Bool) (k:Nat):List Bool × Bool:=(A.take k).foldl (mkU src dst) (u,false)
theorem zf6 (src dst:GArc->Nat) (A:List GArc) (u:List Bool) {k:Nat} (h:k<A.length):pasU src dst A u (k+1)=mkU src dst (pasU src dst A u k) A[k]:=by
 unfold pasU; rw [List.take_succ_eq_append_getElem h,List.foldl_append]; rfl
theorem z4q (src dst:GArc->Nat) (s:List Bool × Bool) (x:GArc):(mkU src dst s x).1.length=s.1.length:=by unfold mkU; split<;>simp
theorem zee (src dst:GArc->Nat) (A:List GArc) (u:List Bool):∀ k,(pasU src dst A u k).1.length=u.length
 | 0=>by simp [pasU]
 | k+1=>by
  by_cases h:k<A.length
  ·rw [zf6 _ _ _ _ h,z4q,zee src dst A u k]
  ·have:pasU src dst A u (k+1)=pasU src dst A u k:=by unfold pasU; rw [List.take_of_length_le (by omega),List.take_of_length_le (by omega)]
   rw [this,zee src dst A u k]
def fT (x:GArc):Nat:=x.f.toNat
def tT (x:GArc):Nat:=x.t.toNat
def e2S (v:GView) (A:List GArc) (N:Nat) (s:List Bool × Bool) (k:Nat):St :=
 mkSt [(1,.ptr 1 0 0 0),(3,.own 11 0 0 N),(5,.p (.bool s.2)),(27,.p (.sl (ens A))),(28,.p (.int .i64 A.length)),(29,.p (.int .i64 k))] [(1,⟨8,[.p (enc v)]⟩),(11,⟨1,avs s.1⟩)]
theorem zui (l:List Bool) (i:Nat) (v:Bool):(avs l).set i (.p (.bool v))=avs (l.set i v):=by
 show (avs l).set i (.p (enc v))=_
 simp [avs,ens,List.map_set]
theorem z5o {v:GView} {A:List GArc} {N:Nat} (hA:∀ x∈A,(0<=x.f/\x.f<(N:Int))/\0<=x.t/\x.t<(N:Int)) (hl:A.length<=100000) {u:List Bool} (hu:u.length=N) {Q:Exit->St->Prop} {ks:List Kt} {st:St} (hw:Weak st (e2S v A N (u,false) 0))
  (hx:zd0 P 52 Q (zbh 4 ks) 4 (e2S v A N (pasU tT fT A u A.length) A.length)):vL P 52 Q g.lj ks st:=by
 refine zai (S:=fun k:Nat=>e2S v A N (pasU tT fT A u k) k) (I:=fun k=>k<=A.length) (m:=fun k=>A.length - k) 0 hw (by omega) ?_
 rintro k hk R hn hr hx'
 have e1:=i64s k (by omega)
 by_cases hlt:k<A.length
 ·obtain ⟨⟨f0,f1⟩,t0,t1⟩:=hA _ (List.getElem_mem hlt)
  have hlt2:(k:Int)<(A.length:Int):=by omega
  have hs:=zf6 tT fT A u hlt
  have hlen:=zee tT fT A u k
  have hend:∀ st',Weak st' (e2S v A N (pasU tT fT A u (k+1)) (k+1))->R .normal st':=fun st' h=>hn (k+1) st' h (by omega) (by omega)
  rw [hs] at hend
  generalize pasU tT fT A u k=s at *
  obtain ⟨w,b⟩:=s
  simp only at hlen
  obtain ⟨f,hf⟩:∃ f:Nat,A[k].f=(f:Int):=⟨A[k].f.toNat,by omega⟩
  obtain ⟨t,ht⟩:∃ t:Nat,A[k].t=(t:Int):=⟨A[k].t.toNat,by omega⟩
  have hfw:f<w.length:=by omega
  have htw:t<w.length:=by omega
  have gf:w.getD f false=w[f]:=by rw [List.getD_eq_getElem?_getD,List.getElem?_eq_getElem hfw]; rfl
  have gt:w.getD t false=w[t]:=by rw [List.getD_eq_getElem?_getD,List.getElem?_eq_getElem htw]; rfl
  have hmk:mkU tT fT (w,b) A[k]=if w[t]=true/\w[f]=false then (w.set f true,true) else (w,b):=by
   unfold mkU
   simp only [tT,fT,hf,ht,Int.toNat_natCast,gf,gt]
  rw [hmk] at hend
  have hfN:f<N:=by omega
  have htN:t<N:=by omega
  simp [g.lj,e2S,mkSt,go_sem,hlt,hlt2]
  refine zae hlt ?_
  simp [go_sem,ht,hf,htN,htw]
  refine ⟨by omega,zae htw ?_⟩
  cases bt:w[t] with
  | false =>
   rw [bt] at hend
   simp only [Bool.false_eq_true,false_and,if_false] at hend
   simp [go_sem,e1]
   exact hend _ (Weak.to [1,3,5,27,28,29] [((1,0),1),((11,0),11)] (by simp [go_sem,e2S,mkSt]))
  | true =>
   rw [bt] at hend
   simp [go_sem,hfN,hfw]
   refine ⟨by omega,zae hfw ?_⟩
   cases bf:w[f] with
   | true =>
    rw [bf] at hend
    simp only [Bool.true_eq_false,and_false,if_false] at hend
    simp [go_sem,e1]
    exact hend _ (Weak.to [1,3,5,27,28,29] [((1,0),1),((11,0),11)] (by simp [go_sem,e2S,mkSt]))
   | false =>
    rw [bf] at hend
    simp only [and_self,if_true] at hend
    simp [go_sem,hfN,hfw,e1]
    refine ⟨by omega,zae hfw ?_⟩
    rw [zui]
    exact hend _ (Weak.to [1,3,5,27,28,29] [((1,0),1),((11,0),11)] (by simp [go_sem,e2S,mkSt]))
 ·have:k=A.length:=by omega
  subst this
  simp [g.lj,e2S,mkSt,go_sem]
  exact hx' _ _ (by simpa [e2S,mkSt,go_sem] using hx)
end Go.Ab
namespace Go.Ab
def cfB:List Bool->Nat
 | []=>0
 | b::l=>(!b).toNat+cfB l
theorem zzj:∀ (l:List Bool) (i:Nat),l.getD i true=false->cfB (l.set i true)+1=cfB l
 | [],i,h=>by simp at h
 | b::l,0,h=>by
  have:b=false:=by simpa using h
  subst this
  simp [cfB]; omega
 | b::l,i+1,h=>by
  have:=zzj l i (by simpa using h)
  simp only [List.set_cons_succ,cfB]; omega
theorem zp2 {l:List Bool} {i q:Nat} (hi:i<l.length):(l.set i true).getD q false=if i=q then true else l.getD q false:=by
 rw [List.getD_eq_getElem?_getD,List.getD_eq_getElem?_getD,List.getElem?_set]
 by_cases h:i=q
 ·subst h; simp [hi]
 ·simp [h]
section
variable {src dst:GArc->Nat} {A:List GArc} {u:List Bool} {N:Nat} (hu:u.length=N) (hd:∀ x∈A,dst x<N)
include hu hd
theorem znu:∀ k,k<=A.length->(∀ q,u.getD q false=true->(pasU src dst A u k).1.getD q false=true) /\
  ((pasU src dst A u k).2=false->(pasU src dst A u k).1=u/\∀ j,(h:j<A.length)->j<k->u.getD (src A[j]) false=true->u.getD (dst A[j]) false=true) /\
  ((pasU src dst A u k).2=true->cfB (pasU src dst A u k).1<cfB u)
 | 0,_=>⟨fun q h=>h,fun _=>⟨rfl,fun j _ h=>by omega⟩,fun h=>by cases h⟩
 | k+1,hk=>by
  obtain ⟨h1,h2,h3⟩:=znu k (by omega)
  have hlen:=zee src dst A u k
  have hdk:=hd _ (List.getElem_mem (show k<A.length by omega))
  rw [zf6 src dst A u (show k<A.length by omega)]
  generalize pasU src dst A u k=s at *
  obtain ⟨w,b⟩:=s
  simp only at h1 h2 h3 hlen
  unfold mkU
  by_cases hc:w.getD (src A[k]) false=true/\w.getD (dst A[k]) false=false
  ·rw [if_pos hc]
   simp only
   have hset:=zzj w (dst A[k]) (by
    rw [List.getD_eq_getElem?_getD,List.getElem?_eq_getElem (by omega)]
    have:=hc.2
    rw [List.getD_eq_getElem?_getD,List.getElem?_eq_getElem (by omega)] at this
    exact this)
   refine ⟨fun q h=>?_,fun h=>(by cases h),fun _=>?_⟩
   ·rw [zp2 (by omega)]
    split
    ·rfl
    ·exact h1 q h
   ·cases b with
    | false=>obtain ⟨rfl,_⟩:=h2 rfl; omega
    | true=>have:=h3 rfl; omega
  ·rw [if_neg hc]
   simp only
   refine ⟨h1,fun hb=>?_,h3⟩
   obtain ⟨rfl,h4⟩:=h2 hb
   refine ⟨rfl,fun j hj hjk hs=>?_⟩
   by_cases e:j=k
   ·subst e
    cases hh:w.getD (dst A[j]) false with
    | true=>rfl
    | false=>exact absurd ⟨hs,hh⟩ hc
   ·exact h4 j hj (by omega) hs
theorem zig {P:Nat->Prop} (hP:∀ x∈A,P (src x)->P (dst x)) (h0:∀ q,u.getD q false=true->P q):∀ k,k<=A.length->∀ q,(pasU src dst A u k).1.getD q false=true->P q
 | 0,_,q,h=>h0 q h
 | k+1,hk,q,h=>by
  have ih:=zig hP h0 k (by omega)
  have hlen:=zee src dst A u k
  have hm:=List.getElem_mem (show k<A.length by omega)
  have hdk:=hd _ hm
  rw [zf6 src dst A u (show k<A.length by omega)] at h
  generalize pasU src dst A u k=s at *
  obtain ⟨w,b⟩:=s
  simp only at ih hlen
  unfold mkU at h
  by_cases hc:w.getD (src A[k]) false=true/\w.getD (dst A[k]) false=false
  ·rw [if_pos hc] at h
   simp only at h
   rw [zp2 (by omega)] at h
   split at h
   ·rename_i e; subst e; exact hP _ hm (ih _ hc.1)
   ·exact ih q h
  ·rw [if_neg hc] at h; exact ih q h
end
inductive Mk (src dst:GArc->Nat) (A:List GArc) (P0:Nat->Prop):Nat->Prop
 | base {q:Nat}:P0 q->Mk src dst A P0 q
 | step {x:GArc}:x∈A->Mk src dst A P0 (src x)->Mk src dst A P0 (dst x)
open Classical in
noncomputable def mkV (src dst:GArc->Nat) (A:List GArc) (P0:Nat->Prop) (N:Nat):List Bool:=mp N fun q=>decide (Mk src dst A P0 q)
open Classical in
theorem z27 {src dst:GArc->Nat} {A:List GArc} {P0:Nat->Prop} {N:Nat} {u:List Bool} (hu:u.length=N) (h0:∀ q,q<N->P0 q->u.getD q false=true) (hP:∀ q,P0 q->q<N) (hs:∀ q,u.getD q false=true->Mk src dst A P0 q)
  (hc:∀ x∈A,u.getD (src x) false=true->u.getD (dst x) false=true):u=mkV src dst A P0 N:=by
 have key:∀ q,Mk src dst A P0 q->u.getD q false=true:=fun q h=>by
  induction h with
  | base h=>exact h0 _ (hP _ h) h
  | step hx _ ih=>exact hc _ hx ih
 unfold mkV
 refine List.ext_getElem (by rw [zbu]; exact hu) fun i h1 h2=>?_
 rw [ze0]
 have e:u.getD i false=u[i]:=by rw [List.getD_eq_getElem?_getD,List.getElem?_eq_getElem h1]; rfl
 cases hb:u[i] with
 | true=>exact (decide_eq_true (hs i (e.trans hb))).symm
 | false=>exact (decide_eq_false fun h=>by have:=key i h; rw [e,hb] at this; cases this).symm
end Go.Ab
namespace Go.Ab
open Enc (enc)
attribute [local go_sem] zal Opd.slots
def endP (A:GAuto) (N:Nat) (q:Nat):Prop:=q<N/\A.fin.getD q A.ring.zero≠A.ring.zero
noncomputable def endV (A:GAuto) (N:Nat):List Bool:=mkV tT fT A.arcs (endP A N) N
noncomputable def fin0 (A:GAuto) (N k:Nat):List Bool:=mp N fun q=>if q<k then decide (A.fin.getD q A.ring.zero≠A.ring.zero) else false
theorem z1x (A:GAuto) {N k:Nat} (hk:k<N):(fin0 A N k).set k (decide (A.fin.getD k A.ring.zero≠A.ring.zero))=fin0 A N (k+1):=by
 unfold fin0
 rw [zmo]
 apply zco
 intro q hq
 by_cases h:q=k
 ·subst h; simp
 ·by_cases h2:q<k
  ·rw [if_neg h,if_pos h2,if_pos (by omega)]
  ·rw [if_neg h,if_neg h2,if_neg (by omega)]
theorem ztu {A:GAuto} {N k q:Nat} (hq:q<N):(fin0 A N k).getD q false=if q<k then decide (A.fin.getD q A.ring.zero≠A.ring.zero) else false:=by
 have hl:q<(fin0 A N k).length:=by unfold fin0; rw [zbu]; exact hq
 rw [List.getD_eq_getElem?_getD,List.getElem?_eq_getElem hl]
 simp only [fin0,ze0,Option.getD_some]
theorem zol (A:GAuto) (N k:Nat):(fin0 A N k).length=N:=zbu _ _
noncomputable def e1S (A:GAuto) (N k:Nat):St :=
 mkSt [(1,.ptr 1 0 0 0),(3,.own 11 0 0 N),(13,.p (.int .i64 N)),(14,.p (.int .i64 k))] [(1,⟨8,[.p (enc (zao A))]⟩),(11,⟨1,avs (fin0 A N k)⟩)]
def e3S (A:GAuto) (N:Nat) (s:List Bool × Bool):St :=
 mkSt [(1,.ptr 1 0 0 0),(3,.own 11 0 0 N),(5,.p (.bool s.2))] [(1,⟨8,[.p (enc (zao A))]⟩),(11,⟨1,avs s.1⟩)]
theorem z1y {A:GAuto} {N:Nat} (hA:CtrOk A N):Sp P F.iq [enc (zao A)] (.fresh 1 (ens (endV A N))):=by
 have hN:=hA.N1
 have hst:(zao A).a.st=(N:Int):=hA.inN.st
 have hva:(zao A).a=A:=rfl
 have hal:=hA.al
 have hr:∀ x∈A.arcs,(0<=x.f/\x.f<(N:Int))/\0<=x.t/\x.t<(N:Int):=fun x hx=>⟨hA.inN.f x hx,hA.t x hx⟩
 have hd:∀ x∈A.arcs,fT x<N:=fun x hx=>by have:=hr x hx; unfold fT; omega
 refine Sp.vz c.iq fun _=>?_
 simp [g.iq,go_sem,hst]
 refine ⟨by omega,?_⟩
 refine zai (S:=fun k:Nat=>e1S A N k) (I:=fun k=>k<=N) (m:=fun k=>N - k) 0 (Weak.to [1,3,13,14] [((1,0),1),((11,0),11)] ?_) (by omega) ?_
 ·have:fin0 A N 0=List.replicate N false:=by
   unfold fin0; rw [<- zjr]; apply zco; intro q _; simp
  simp [go_sem,e1S,mkSt,this,hst]
 rintro k hk R hn hr' hx
 have e1:=i64s k (by omega)
 by_cases hlt:k<N
 ·have hki:k<(zao A).a.fin.length:=by show k<A.fin.length; rw [hA.fl]; exact hlt
  have hset:=z1x A hlt
  have hg:A.fin.getD k A.ring.zero=A.fin[k]'(by rw [hA.fl]; exact hlt):=by rw [List.getD_eq_getElem?_getD,List.getElem?_eq_getElem (by rw [hA.fl]; exact hlt)]; rfl
  have hes:=zyx (zao A) k hki hA.fsm
  have hdec:decide ((zao A).a.fin[k]≠(zao A).a.ring.zero)=decide (A.fin.getD k A.ring.zero≠A.ring.zero):=by rw [hg]; rfl
  rw [hdec] at hes
  have hfl:=zol A N k
  have hend:∀ st',Weak st' (e1S A N (k+1))->R .normal st':=fun st' h=>hn (k+1) st' h (by omega) (by omega)
  unfold e1S at hend ⊢
  rw [<- hset] at hend
  generalize fin0 A N k=u at *
  generalize decide (A.fin.getD k A.ring.zero≠A.ring.zero)=b at *
  simp [g.mw,mkSt,go_sem,hlt]
  refine zaf hes ?_
  simp [go_sem,hlt,e1,hfl]
  refine zae (by omega) ?_
  rw [zui]
  exact hend _ (Weak.to [1,3,13,14] [((1,0),1),((11,0),11)] (by simp [go_sem,mkSt]))
 ·have:k=N:=by omega
  subst this
  have h00:∀ q,q<k->endP A k q->(fin0 A k k).getD q false=true:=fun q hq h=>by rw [ztu hq,if_pos hq]; exact decide_eq_true h.2
  have h01:∀ q,(fin0 A k k).getD q false=true->Mk tT fT A.arcs (endP A k) q:=fun q h=>by
   by_cases hq:q<k
   ·rw [ztu hq,if_pos hq] at h
    exact .base ⟨hq,of_decide_eq_true h⟩
   ·rw [List.getD_eq_getElem?_getD,List.getElem?_eq_none (by rw [zol]; omega)] at h
    cases h
  have hfl:=zol A k k
  simp [g.mw,e1S,mkSt,go_sem]
  refine hx _ _ ?_
  generalize fin0 A k k=u0 at *
  simp [go_sem]
  refine zai (S:=fun s:List Bool × Bool=>e3S A k s) (I:=fun s=>s.1.length=k/\(∀ q,q<k->endP A k q->s.1.getD q false=true)/\(∀ q,s.1.getD q false=true->Mk tT fT A.arcs (endP A k) q)/\(s.2=false->∀ x∈A.arcs,s.1.getD (tT x) false=true->s.1.getD (fT x) false=true))
   (m:=fun s=>2*cfB s.1+s.2.toNat) (u0,true) (Weak.to [1,3,5] [((1,0),1),((11,0),11)] (by simp [go_sem,e3S,mkSt])) ⟨hfl,h00,h01,fun h=>by cases h⟩ ?_
  rintro ⟨u,b⟩ ⟨u1,u2,u3,u4⟩ R2 hn2 hr2 hx2
  simp only at u1 u2 u3 u4
  cases b with
  | false =>
   have he:=z27 u1 u2 (fun q h=>h.1) u3 (u4 rfl)
   simp [g.my,e3S,mkSt,go_sem]
   refine hx2 _ _ ?_
   rw [show endV A k=u from he.symm]
   simp [go_sem,u1]
  | true =>
   simp [g.my,e3S,mkSt,go_sem]
   refine z5o (v:=zao A) (A:=A.arcs) (N:=k) hr (by omega) u1 (Weak.to [1,3,5,27,28,29] [((1,0),1),((11,0),11)] (by simp [go_sem,e2S,mkSt,hva])) ?_
   obtain ⟨p1,p2,p3⟩:=znu (src:=tT) (dst:=fT) (A:=A.arcs) u1 hd A.arcs.length (Nat.le_refl _)
   have p4:=zig (src:=tT) (dst:=fT) (A:=A.arcs) u1 hd (P:=Mk tT fT A.arcs (endP A k)) (fun x hx h=>.step hx h) u3 A.arcs.length (Nat.le_refl _)
   have p5:=zee tT fT A.arcs u A.arcs.length
   generalize pasU tT fT A.arcs u A.arcs.length=s at *
   simp [e2S,mkSt,go_sem]
   refine hn2 s _ (Weak.to [1,3,5] [((1,0),1),((11,0),11)] (by simp [go_sem,e3S,mkSt])) ⟨by omega,fun q hq h=>p1 q (u2 q hq h),p4,fun hb x hx h=>?_⟩ ?_
   ·obtain ⟨q1,q2⟩:=p2 hb
    obtain ⟨j,hj,rfl⟩:=List.mem_iff_getElem.1 hx
    rw [q1] at h ⊢
    exact q2 j hj hj h
   ·obtain ⟨w,b⟩:=s
    cases b with
    | false=>obtain ⟨rfl,_⟩:=p2 rfl; simp
    | true=>have:=p3 rfl; simp only [Bool.toNat_true] at this ⊢; omega
end Go.Ab
namespace Go.Ab
open Enc (enc)
attribute [local go_sem] zal Opd.slots
def g2S (v:GView) (A:List GArc) (N:Nat) (E:List Bool) (s:List Bool × Bool) (k:Nat):St :=
 mkSt [(1,.ptr 1 0 0 0),(3,.own 11 0 0 N),(4,.own 15 0 0 N),(6,.p (.bool s.2)),(31,.p (.sl (ens A))),(32,.p (.int .i64 A.length)),(33,.p (.int .i64 k))] [(1,⟨8,[.p (enc v)]⟩),(11,⟨1,avs E⟩),(15,⟨1,avs s.1⟩)]
theorem z5a {v:GView} {A:List GArc} {N:Nat} {E:List Bool} (hA:∀ x∈A,(0<=x.f/\x.f<(N:Int))/\0<=x.t/\x.t<(N:Int)) (hl:A.length<=100000) {u:List Bool} (hu:u.length=N) {Q:Exit->St->Prop} {ks:List Kt} {st:St} (hw:Weak st (g2S v A N E (u,false) 0))
  (hx:zd0 P 75 Q (zbh 4 ks) 4 (g2S v A N E (pasU fT tT A u A.length) A.length)):vL P 75 Q g.ld ks st:=by
 refine zai (S:=fun k:Nat=>g2S v A N E (pasU fT tT A u k) k) (I:=fun k=>k<=A.length) (m:=fun k=>A.length - k) 0 hw (by omega) ?_
 rintro k hk R hn hr hx'
 have e1:=i64s k (by omega)
 by_cases hlt:k<A.length
 ·obtain ⟨⟨f0,f1⟩,t0,t1⟩:=hA _ (List.getElem_mem hlt)
  have hlt2:(k:Int)<(A.length:Int):=by omega
  have hs:=zf6 fT tT A u hlt
  have hlen:=zee fT tT A u k
  have hend:∀ st',Weak st' (g2S v A N E (pasU fT tT A u (k+1)) (k+1))->R .normal st':=fun st' h=>hn (k+1) st' h (by omega) (by omega)
  rw [hs] at hend
  generalize pasU fT tT A u k=s at *
  obtain ⟨w,b⟩:=s
  simp only at hlen
  obtain ⟨f,hf⟩:∃ f:Nat,A[k].f=(f:Int):=⟨A[k].f.toNat,by omega⟩
  obtain ⟨t,ht⟩:∃ t:Nat,A[k].t=(t:Int):=⟨A[k].t.toNat,by omega⟩
  have hfw:f<w.length:=by omega
  have htw:t<w.length:=by omega
  have gf:w.getD f false=w[f]:=by rw [List.getD_eq_getElem?_getD,List.getElem?_eq_getElem hfw]; rfl
  have gt:w.getD t false=w[t]:=by rw [List.getD_eq_getElem?_getD,List.getElem?_eq_getElem htw]; rfl
  have hmk:mkU fT tT (w,b) A[k]=if w[f]=true/\w[t]=false then (w.set t true,true) else (w,b):=by
   unfold mkU
   simp only [tT,fT,hf,ht,Int.toNat_natCast,gf,gt]
  rw [hmk] at hend
  have hfN:f<N:=by omega
  have htN:t<N:=by omega
  simp [g.ld,g2S,mkSt,go_sem,hlt,hlt2]
  refine zae hlt ?_
  simp [go_sem,ht,hf,hfN,hfw]
  refine ⟨by omega,zae hfw ?_⟩
  cases bf:w[f] with
  | false =>
   rw [bf] at hend
   simp only [Bool.false_eq_true,false_and,if_false] at hend
   simp [go_sem,e1]
   exact hend _ (Weak.to [1,3,4,6,31,32,33] [((1,0),1),((11,0),11),((15,0),15)] (by simp [go_sem,g2S,mkSt]))
  | true =>
   rw [bf] at hend
   simp [go_sem,htN,htw]
   refine ⟨by omega,zae htw ?_⟩
   cases bt:w[t] with
   | true =>
    rw [bt] at hend
    simp only [Bool.true_eq_false,and_false,if_false] at hend
    simp [go_sem,e1]
    exact hend _ (Weak.to [1,3,4,6,31,32,33] [((1,0),1),((11,0),11),((15,0),15)] (by simp [go_sem,g2S,mkSt]))
   | false =>
    rw [bt] at hend
    simp only [and_self,if_true] at hend
    simp [go_sem,htN,htw,e1]
    refine ⟨by omega,zae htw ?_⟩
    rw [zui]
    exact hend _ (Weak.to [1,3,4,6,31,32,33] [((1,0),1),((11,0),11),((15,0),15)] (by simp [go_sem,g2S,mkSt]))
 ·have:k=A.length:=by omega
  subst this
  simp [g.ld,g2S,mkSt,go_sem]
  exact hx' _ _ (by simpa [g2S,mkSt,go_sem] using hx)
def begP (A:GAuto) (N:Nat) (q:Nat):Prop:=q<N/\A.ini.getD q A.ring.zero≠A.ring.zero
noncomputable def begV (A:GAuto) (N:Nat):List Bool:=mkV fT tT A.arcs (begP A N) N
end Go.Ab
namespace Go.Ab
open Enc (enc)
attribute [local go_sem] zal Opd.slots
noncomputable def ini0 (A:GAuto) (N k:Nat):List Bool:=mp N fun q=>if q<k then decide (A.ini.getD q A.ring.zero≠A.ring.zero) else false
theorem z1n (A:GAuto) {N k:Nat} (hk:k<N):(ini0 A N k).set k (decide (A.ini.getD k A.ring.zero≠A.ring.zero))=ini0 A N (k+1):=by
 unfold ini0
 rw [zmo]
 apply zco
 intro q hq
 by_cases h:q=k
 ·subst h; simp
 ·by_cases h2:q<k
  ·rw [if_neg h,if_pos h2,if_pos (by omega)]
  ·rw [if_neg h,if_neg h2,if_neg (by omega)]
theorem ztj {A:GAuto} {N k q:Nat} (hq:q<N):(ini0 A N k).getD q false=if q<k then decide (A.ini.getD q A.ring.zero≠A.ring.zero) else false:=by
 have hl:q<(ini0 A N k).length:=by unfold ini0; rw [zbu]; exact hq
 rw [List.getD_eq_getElem?_getD,List.getElem?_eq_getElem hl]
 simp only [ini0,ze0,Option.getD_some]
theorem zof (A:GAuto) (N k:Nat):(ini0 A N k).length=N:=zbu _ _
noncomputable def g1S (A:GAuto) (N k:Nat):St :=
 mkSt [(1,.ptr 1 0 0 0),(3,.own 11 0 0 N),(4,.own 15 0 0 N),(17,.p (.int .i64 N)),(18,.p (.int .i64 k))] [(1,⟨8,[.p (enc (zao A))]⟩),(11,⟨1,avs (endV A N)⟩),(15,⟨1,avs (ini0 A N k)⟩)]
noncomputable def g3S (A:GAuto) (N:Nat) (s:List Bool × Bool):St :=
 mkSt [(1,.ptr 1 0 0 0),(3,.own 11 0 0 N),(4,.own 15 0 0 N),(6,.p (.bool s.2))] [(1,⟨8,[.p (enc (zao A))]⟩),(11,⟨1,avs (endV A N)⟩),(15,⟨1,avs s.1⟩)]
noncomputable def andV (E B:List Bool) (N k:Nat):List Bool:=mp N fun q=>if q<k then E.getD q false&&B.getD q false else E.getD q false
theorem zgv (E B:List Bool) (N k:Nat):(andV E B N k).length=N:=zbu _ _
theorem z2u {E B:List Bool} {N k:Nat} (hk:k<N):(andV E B N k).getD k false=E.getD k false:=by
 have hl:k<(andV E B N k).length:=by rw [zgv]; exact hk
 rw [List.getD_eq_getElem?_getD,List.getElem?_eq_getElem hl]
 simp [andV,ze0]
theorem z2t (E B:List Bool) {N k:Nat} (hk:k<N):(andV E B N k).set k (E.getD k false&&B.getD k false)=andV E B N (k+1):=by
 unfold andV
 rw [zmo]
 apply zco
 intro q hq
 by_cases h:q=k
 ·subst h; simp
 ·by_cases h2:q<k
  ·rw [if_neg h,if_pos h2,if_pos (by omega)]
  ·rw [if_neg h,if_neg h2,if_neg (by omega)]
def g4S (N:Nat) (E B:List Bool) (k:Nat):St :=
 mkSt [(3,.own 11 0 0 N),(4,.own 15 0 0 N),(56,.p (.int .i64 N)),(57,.p (.int .i64 k))] [(11,⟨1,avs E⟩),(15,⟨1,avs B⟩)]
noncomputable def usV (A:GAuto) (N:Nat):List Bool:=andV (endV A N) (begV A N) N N
theorem z1z (A:GAuto) (N:Nat):(endV A N).length=N:=zbu _ _
theorem z49 {N:Nat} (hN:N<=64) {E B:List Bool} (hE:E.length=N) (hB:B.length=N) {Q:Exit->St->Prop} {ks:List Kt} {st:St} (hw:Weak st (g4S N (andV E B N 0) B 0))
  (hx:zd0 P 75 Q (zbh 6 ks) 6 (g4S N (andV E B N N) B N)):vL P 75 Q g.lh ks st:=by
 refine zai (S:=fun k:Nat=>g4S N (andV E B N k) B k) (I:=fun k=>k<=N) (m:=fun k=>N - k) 0 hw (by omega) ?_
 rintro k hk R hn hr hx'
 have e1:=i64s k (by omega)
 by_cases hlt:k<N
 ·have hlen:=zgv E B N k
  have hg:=z2u (E:=E) (B:=B) hlt
  have hs:=z2t E B hlt
  have hkB:k<B.length:=by omega
  have gB:B.getD k false=B[k]:=by rw [List.getD_eq_getElem?_getD,List.getElem?_eq_getElem hkB]; rfl
  have hend:∀ st',Weak st' (g4S N (andV E B N (k+1)) B (k+1))->R .normal st':=fun st' h=>hn (k+1) st' h (by omega) (by omega)
  rw [<- hs] at hend
  rw [gB] at hend
  generalize andV E B N k=U at *
  generalize E.getD k false=b at *
  have hkU:k<U.length:=by omega
  have hU:U[k]=b:=by rw [<- hg,List.getD_eq_getElem?_getD,List.getElem?_eq_getElem hkU]; rfl
  simp [g.lh,g4S,mkSt,go_sem,hlt]
  refine ⟨by omega,zae hkU ?_⟩
  rw [hU]
  cases b with
  | false =>
   simp only [Bool.false_and] at hend
   simp [go_sem,e1,hlt]
   refine ⟨by omega,zae hkU ?_⟩
   rw [zui]
   exact hend _ (Weak.to [3,4,56,57] [((11,0),11),((15,0),15)] (by simp [go_sem,g4S,mkSt]))
  | true =>
   simp only [Bool.true_and] at hend
   simp [go_sem,e1,hlt]
   refine ⟨by omega,zae hkB ?_⟩
   refine ⟨by omega,zae hkU ?_⟩
   rw [zui]
   exact hend _ (Weak.to [3,4,56,57] [((11,0),11),((15,0),15)] (by simp [go_sem,g4S,mkSt]))
 ·have:k=N:=by omega
  subst this
  simp [g.lh,g4S,mkSt,go_sem]
  exact hx' _ _ (by simpa [g4S,mkSt,go_sem] using hx)
end Go.Ab
namespace Go.Ab
open Enc (enc)
attribute [local go_sem] zal Opd.slots
theorem zv1 {A:GAuto} {N:Nat} (hA:CtrOk A N) (hil:A.ini.length=N) (hism:∀ w∈A.ini,w.sm 1048576):Sp P F.ic [enc (zao A)] (.fresh 1 (ens (usV A N))):=by
 have hN:=hA.N1
 have hst:(zao A).a.st=(N:Int):=hA.inN.st
 have hva:(zao A).a=A:=rfl
 have hal:=hA.al
 have hr:∀ x∈A.arcs,(0<=x.f/\x.f<(N:Int))/\0<=x.t/\x.t<(N:Int):=fun x hx=>⟨hA.inN.f x hx,hA.t x hx⟩
 have hd:∀ x∈A.arcs,tT x<N:=fun x hx=>by have:=hr x hx; unfold tT; omega
 have hen:=z1y hA
 have hel:=z1z A N
 refine Sp.vz c.ic fun _=>?_
 simp [g.ic,go_sem]
 refine zd9 hen (by simp [go_sem]) ⟨by simp [go_sem,ens],by omega,by simp [ens,LIM,hel]; omega⟩ _ rfl ?_
 simp [go_sem,hst,hel]
 refine ⟨by omega,?_⟩
 refine zai (S:=fun k:Nat=>g1S A N k) (I:=fun k=>k<=N) (m:=fun k=>N - k) 0 (Weak.to [1,3,4,17,18] [((1,0),1),((11,0),11),((15,0),15)] ?_) (by omega) ?_
 ·have:ini0 A N 0=List.replicate N false:=by
   unfold ini0; rw [<- zjr]; apply zco; intro q _; simp
  simp [go_sem,g1S,mkSt,this,hst]
 rintro k hk R hn hr' hx
 have e1:=i64s k (by omega)
 by_cases hlt:k<N
 ·have hki:k<(zao A).a.ini.length:=by show k<A.ini.length; omega
  have hset:=z1n A hlt
  have hg:A.ini.getD k A.ring.zero=A.ini[k]'(by omega):=by rw [List.getD_eq_getElem?_getD,List.getElem?_eq_getElem (by omega)]; rfl
  have hes:=zlp (zao A) k hki hism
  have hdec:decide ((zao A).a.ini[k]≠(zao A).a.ring.zero)=decide (A.ini.getD k A.ring.zero≠A.ring.zero):=by rw [hg]; rfl
  rw [hdec] at hes
  have hfl:=zof A N k
  have hend:∀ st',Weak st' (g1S A N (k+1))->R .normal st':=fun st' h=>hn (k+1) st' h (by omega) (by omega)
  unfold g1S at hend ⊢
  rw [<- hset] at hend
  generalize ini0 A N k=u at *
  generalize decide (A.ini.getD k A.ring.zero≠A.ring.zero)=b at *
  simp [g.mm,mkSt,go_sem,hlt]
  refine zaf hes ?_
  simp [go_sem,hlt,e1,hfl]
  refine zae (by omega) ?_
  rw [zui]
  exact hend _ (Weak.to [1,3,4,17,18] [((1,0),1),((11,0),11),((15,0),15)] (by simp [go_sem,mkSt]))
 ·have:k=N:=by omega
  subst this
  have h00:∀ q,q<k->begP A k q->(ini0 A k k).getD q false=true:=fun q hq h=>by rw [ztj hq,if_pos hq]; exact decide_eq_true h.2
  have h01:∀ q,(ini0 A k k).getD q false=true->Mk fT tT A.arcs (begP A k) q:=fun q h=>by
   by_cases hq:q<k
   ·rw [ztj hq,if_pos hq] at h
    exact .base ⟨hq,of_decide_eq_true h⟩
   ·rw [List.getD_eq_getElem?_getD,List.getElem?_eq_none (by rw [zof]; omega)] at h
    cases h
  have hfl:=zof A k k
  simp [g.mm,g1S,mkSt,go_sem]
  refine hx _ _ ?_
  generalize ini0 A k k=u0 at *
  simp [go_sem]
  refine zai (S:=fun s:List Bool × Bool=>g3S A k s) (I:=fun s=>s.1.length=k/\(∀ q,q<k->begP A k q->s.1.getD q false=true)/\(∀ q,s.1.getD q false=true->Mk fT tT A.arcs (begP A k) q)/\(s.2=false->∀ x∈A.arcs,s.1.getD (fT x) false=true->s.1.getD (tT x) false=true))
   (m:=fun s=>2*cfB s.1+s.2.toNat) (u0,true) (Weak.to [1,3,4,6] [((1,0),1),((11,0),11),((15,0),15)] (by simp [go_sem,g3S,mkSt])) ⟨hfl,h00,h01,fun h=>by cases h⟩ ?_
  rintro ⟨u,b⟩ ⟨u1,u2,u3,u4⟩ R2 hn2 hr2 hx2
  simp only at u1 u2 u3 u4
  cases b with
  | false =>
   have he:=z27 u1 u2 (fun q h=>h.1) u3 (u4 rfl)
   have hbv:begV A k=u:=he.symm
   have ha0:andV (endV A k) u k 0=endV A k:=by
    refine List.ext_getElem (by rw [zgv,hel]) fun i h1 h2=>?_
    have:=zgv (endV A k) u k 0
    simp only [andV,ze0,Nat.not_lt_zero,if_false]
    rw [List.getD_eq_getElem?_getD,List.getElem?_eq_getElem h2]; rfl
   have hus:usV A k=andV (endV A k) u k k:=by unfold usV; rw [hbv]
   have hul:=zgv (endV A k) u k k
   simp [g.mn,g3S,mkSt,go_sem]
   refine hx2 _ _ ?_
   simp [go_sem,hel]
   refine z49 hN hel u1 (Weak.to [3,4,56,57] [((11,0),11),((15,0),15)] (by simp [go_sem,g4S,mkSt,ha0])) ?_
   rw [hus]
   generalize andV (endV A k) u k k=U at *
   simp [g4S,mkSt,go_sem,hul]
  | true =>
   simp [g.mn,g3S,mkSt,go_sem]
   refine z5a (v:=zao A) (A:=A.arcs) (N:=k) (E:=endV A k) hr (by omega) u1 (Weak.to [1,3,4,6,31,32,33] [((1,0),1),((11,0),11),((15,0),15)] (by simp [go_sem,g2S,mkSt,hva])) ?_
   obtain ⟨p1,p2,p3⟩:=znu (src:=fT) (dst:=tT) (A:=A.arcs) u1 hd A.arcs.length (Nat.le_refl _)
   have p4:=zig (src:=fT) (dst:=tT) (A:=A.arcs) u1 hd (P:=Mk fT tT A.arcs (begP A k)) (fun x hx h=>.step hx h) u3 A.arcs.length (Nat.le_refl _)
   have p5:=zee fT tT A.arcs u A.arcs.length
   generalize pasU fT tT A.arcs u A.arcs.length=s at *
   simp [g2S,mkSt,go_sem]
   refine hn2 s _ (Weak.to [1,3,4,6] [((1,0),1),((11,0),11),((15,0),15)] (by simp [go_sem,g3S,mkSt])) ⟨by omega,fun q hq h=>p1 q (u2 q hq h),p4,fun hb x hx h=>?_⟩ ?_
   ·obtain ⟨q1,q2⟩:=p2 hb
    obtain ⟨j,hj,rfl⟩:=List.mem_iff_getElem.1 hx
    rw [q1] at h ⊢
    exact q2 j hj hj h
   ·obtain ⟨w,b⟩:=s
    cases b with
    | false=>obtain ⟨rfl,_⟩:=p2 rfl; simp
    | true=>have:=p3 rfl; simp only [Bool.toNat_true] at this ⊢; omega
end Go.Ab
namespace Go.Ab
def dfsL (f:List Int->Nat->Bool × List Int):List Nat->List Int->Bool × List Int
 | [],s=>(true,s)
 | y::l,s=>if (f s y).1=true then dfsL f l (f s y).2 else (false,(f s y).2)
def dfsF (adj:Nat->List Nat):Nat->List Int->Nat->Bool × List Int
 | 0,s,_=>(false,s)
 | n+1,s,q=>if s.getD q 0≠0 then (decide (s.getD q 0=2),s) else
   if (dfsL (dfsF adj n) (adj q) (s.set q 1)).1=true then (true,(dfsL (dfsF adj n) (adj q) (s.set q 1)).2.set q 2) else (false,(dfsL (dfsF adj n) (adj q) (s.set q 1)).2)
def zer:List Int->Nat
 | []=>0
 | x::l=>(if x=0 then 1 else 0)+zer l
theorem zvu:∀ l:List Int,zer l<=l.length
 | []=>Nat.le_refl _
 | x::l=>by have:=zvu l; simp only [zer,List.length_cons]; split<;>omega
theorem zjz {v:Int} (hv:v≠0):∀ (l:List Int) (i:Nat),i<l.length->zer (l.set i v)+(if l.getD i 0=0 then 1 else 0)=zer l
 | [],i,h=>by simp at h
 | x::l,0,_=>by
  have e:(x::l).getD 0 0=x:=rfl
  rw [e]
  simp only [List.set_cons_zero,zer]; rw [if_neg hv]; split<;>omega
 | x::l,i+1,h=>by
  have:=zjz hv l i (by simpa using h)
  have e:(x::l).getD (i+1) 0=l.getD i 0:=by simp
  rw [e]
  simp only [List.set_cons_succ,zer]; omega
theorem zcp {l:List Int} {i q:Nat} {v:Int} (hi:i<l.length):(l.set i v).getD q 0=if i=q then v else l.getD q 0:=by
 rw [List.getD_eq_getElem?_getD,List.getD_eq_getElem?_getD,List.getElem?_set]
 by_cases h:i=q
 ·subst h; simp [hi]
 ·simp [h]
section
variable {adj:Nat->List Nat} {N:Nat} (hN:∀ q,q<N->∀ y∈adj q,y<N)
inductive Tc (R:Nat->Nat->Prop):Nat->Nat->Prop
 | one {x y:Nat}:R x y->Tc R x y
 | more {x y z:Nat}:Tc R x y->R y z->Tc R x z
def Ad (adj:Nat->List Nat) (x y:Nat):Prop:=y∈adj x
structure Dst (adj:Nat->List Nat) (N:Nat) (s s':List Int):Prop where
 len:s'.length=N
 rng:∀ q,s'.getD q 0=0\/s'.getD q 0=1\/s'.getD q 0=2
 le:zer s'<=zer s
 grey:∀ q,s'.getD q 0=1 ↔ s.getD q 0=1
 blk:∀ q,s.getD q 0=2->s'.getD q 0=2
 acc:∀ q,s'.getD q 0=2->Acc (fun y x=>Ad adj x y) q
theorem Dst.trans {s s' s2:List Int} (h:Dst adj N s s') (k:Dst adj N s' s2):Dst adj N s s2 :=
 ⟨k.len,k.rng,Nat.le_trans k.le h.le,fun q=>(k.grey q).trans (h.grey q),fun q hq=>k.blk q (h.blk q hq),k.acc⟩
structure Din (adj:Nat->List Nat) (N:Nat) (s:List Int):Prop where
 len:s.length=N
 rng:∀ q,s.getD q 0=0\/s.getD q 0=1\/s.getD q 0=2
 acc:∀ q,s.getD q 0=2->Acc (fun y x=>Ad adj x y) q
theorem Dst.din {s s':List Int} (h:Dst adj N s s'):Din adj N s':=⟨h.len,h.rng,h.acc⟩
theorem Din.refl {s:List Int} (h:Din adj N s):Dst adj N s s:=⟨h.len,h.rng,Nat.le_refl _,fun _=>Iff.rfl,fun _ h=>h,h.acc⟩
def DOk (adj:Nat->List Nat) (N:Nat) (s:List Int) (q:Nat) (r:Bool × List Int):Prop :=
 (r.1=true->Dst adj N s r.2/\r.2.getD q 0=2)/\(r.1=false->r.2.length=N/\(∀ q,r.2.getD q 0=0\/r.2.getD q 0=1\/r.2.getD q 0=2)/\∃ c,Tc (Ad adj) c c)
theorem zrw {f:List Int->Nat->Bool × List Int} {n:Nat} (hf:∀ s q,Din adj N s->q<N->zer s<n->(∀ x,s.getD x 0=1->Tc (Ad adj) x q)->DOk adj N s q (f s q)) :
  ∀ (l:List Nat) (s:List Int),Din adj N s->(∀ y∈l,y<N)->zer s<n->(∀ y∈l,∀ x,s.getD x 0=1->Tc (Ad adj) x y) ->
  ((dfsL f l s).1=true->Dst adj N s (dfsL f l s).2/\∀ y∈l,(dfsL f l s).2.getD y 0=2)/\((dfsL f l s).1=false->(dfsL f l s).2.length=N/\(∀ q,(dfsL f l s).2.getD q 0=0\/(dfsL f l s).2.getD q 0=1\/(dfsL f l s).2.getD q 0=2)/\∃ c,Tc (Ad adj) c c)
 | [],s,hs,_,_,_=>⟨fun _=>⟨hs.refl,fun y hy=>by cases hy⟩,fun h=>by cases h⟩
 | y::l,s,hs,hl,hz,hg=>by
  obtain ⟨h1,h2⟩:=hf s y hs (hl y List.mem_cons_self) hz (hg y List.mem_cons_self)
  simp only [dfsL]
  by_cases hb:(f s y).1=true
  ·rw [if_pos hb]
   obtain ⟨k1,k2⟩:=h1 hb
   obtain ⟨r1,r2⟩:=zrw hf l (f s y).2 k1.din (fun z hz=>hl z (List.mem_cons_of_mem _ hz)) (Nat.lt_of_le_of_lt k1.le hz) (fun z hz x hx=>hg z (List.mem_cons_of_mem _ hz) x ((k1.grey x).1 hx))
   refine ⟨fun h=>?_,r2⟩
   obtain ⟨t1,t2⟩:=r1 h
   refine ⟨k1.trans t1,fun z hz=>?_⟩
   rcases List.mem_cons.1 hz with rfl|hz
   ·exact t1.blk _ k2
   ·exact t2 z hz
  ·rw [if_neg hb]
   exact ⟨fun h=>absurd h (by simp),fun _=>h2 (by simpa using hb)⟩
include hN in
theorem zze:∀ (n:Nat) (s:List Int) (q:Nat),Din adj N s->q<N->zer s<n->(∀ x,s.getD x 0=1->Tc (Ad adj) x q)->DOk adj N s q (dfsF adj n s q)
 | 0,s,q,_,_,h,_=>by omega
 | n+1,s,q,hs,hq,hz,hg=>by
  simp only [dfsF]
  by_cases h0:s.getD q 0≠0
  ·rw [if_pos h0]
   refine ⟨fun h=>⟨hs.refl,of_decide_eq_true h⟩,fun h=>⟨hs.len,hs.rng,q,hg q ?_⟩⟩
   have h2:=of_decide_eq_false h
   rcases hs.rng q with h|h|h
   ·exact absurd h h0
   ·exact h
   ·exact absurd h h2
  ·rw [if_neg h0]
   have h0:s.getD q 0=0:=by simpa using h0
   have hql:q<s.length:=by rw [hs.len]; exact hq
   have z1:=zjz (v:=1) (by omega) s q hql
   rw [if_pos h0] at z1
   have hs1:Din adj N (s.set q 1):=by
    refine ⟨by rw [List.length_set]; exact hs.len,fun x=>?_,fun x hx=>?_⟩
    ·rw [zcp hql]; split
     ·exact .inr (.inl rfl)
     ·exact hs.rng x
    ·rw [zcp hql] at hx; split at hx
     ·omega
     ·exact hs.acc x hx
   obtain ⟨r1,r2⟩:=zrw (n:=n) (fun s q h1 h2 h3 h4=>zze n s q h1 h2 h3 h4) (adj q) (s.set q 1) hs1 (hN q hq) (by omega) (fun y hy x hx=>by
    rw [zcp hql] at hx
    split at hx
    ·rename_i e; subst e; exact .one hy
    ·exact .more (hg x hx) hy)
   generalize dfsL (dfsF adj n) (adj q) (s.set q 1)=r at *
   obtain ⟨b,s'⟩:=r
   simp only at r1 r2
   cases b with
   | false=>rw [if_neg (by simp)]; exact ⟨fun h=>absurd h (by simp),fun _=>r2 rfl⟩
   | true =>
    rw [if_pos rfl]
    obtain ⟨k1,k2⟩:=r1 rfl
    have hql':q<s'.length:=by rw [k1.len]; exact hq
    have z2:=zjz (v:=2) (by omega) s' q hql'
    have g1:s'.getD q 0=1:=(k1.grey q).2 (by rw [zcp hql,if_pos rfl])
    have hacc:Acc (fun y x=>Ad adj x y) q:=⟨_,fun y hy=>k1.acc y (k2 y hy)⟩
    refine ⟨fun _=>⟨⟨by rw [List.length_set]; exact k1.len,fun x=>?_,?_,fun x=>?_,fun x hx=>?_,fun x hx=>?_⟩,by rw [zcp hql',if_pos rfl]⟩,fun h=>by cases h⟩
    ·rw [zcp hql']; split
     ·exact .inr (.inr rfl)
     ·exact k1.rng x
    ·have:=k1.le
     rw [g1,if_neg (by omega)] at z2
     show zer (s'.set q 2)<=zer s
     omega
    ·rw [zcp hql']
     by_cases e:q=x
     ·subst e; rw [if_pos rfl,h0]; simp
     ·rw [if_neg e,k1.grey x,zcp hql,if_neg e]
    ·rw [zcp hql']
     by_cases e:q=x
     ·rw [if_pos e]
     ·rw [if_neg e]; refine k1.blk x ?_
      rw [zcp hql,if_neg e]; exact hx
    ·rw [zcp hql'] at hx
     split at hx
     ·rename_i e; subst e; exact hacc
     ·exact k1.acc x hx
end
theorem zl4 {v:Int} (hv:v≠0) (l:List Int) (i:Nat):zer (l.set i v)<=zer l:=by
 by_cases h:i<l.length
 ·have:=zjz hv l i h; omega
 ·rw [List.set_eq_of_length_le (by omega)]; exact Nat.le_refl _
theorem ztz {f:List Int->Nat->Bool × List Int} (hf:∀ s q,(f s q).2.length=s.length/\zer (f s q).2<=zer s):∀ (l:List Nat) (s:List Int),(dfsL f l s).2.length=s.length/\zer (dfsL f l s).2<=zer s
 | [],s=>⟨rfl,Nat.le_refl _⟩
 | y::l,s=>by
  have h:=hf s y
  have k:=ztz hf l (f s y).2
  simp only [dfsL]
  split
  ·exact ⟨k.1.trans h.1,Nat.le_trans k.2 h.2⟩
  ·exact h
theorem zon {adj:Nat->List Nat}:∀ (n:Nat) (s:List Int) (q:Nat),(dfsF adj n s q).2.length=s.length/\zer (dfsF adj n s q).2<=zer s
 | 0,s,_=>⟨rfl,Nat.le_refl _⟩
 | n+1,s,q=>by
  have k:=ztz (fun s q=>zon (adj:=adj) n s q) (adj q) (s.set q 1)
  have z1:=zl4 (v:=1) (by omega) s q
  simp only [dfsF]
  split
  ·exact ⟨rfl,Nat.le_refl _⟩
  ·split
   ·have z2:=zl4 (v:=2) (by omega) (dfsL (dfsF adj n) (adj q) (s.set q 1)).2 q
    refine ⟨?_,Nat.le_trans z2 (Nat.le_trans k.2 z1)⟩
    rw [List.length_set,k.1,List.length_set]
   ·exact ⟨by rw [k.1,List.length_set],Nat.le_trans k.2 z1⟩
theorem Tc.trans {R:Nat->Nat->Prop} {x y z:Nat} (h:Tc R x y) (k:Tc R y z):Tc R x z:=by
 induction k with
 | one k=>exact .more h k
 | more _ k ih=>exact .more ih k
theorem z89 {R:Nat->Nat->Prop} {q:Nat} (h:Acc (fun y x=>R x y) q):¬ Tc R q q:=by
 have key:∀ q,Acc (fun y x=>R x y) q->∀ x,Tc R q x->x≠q:=fun q h=>by
  induction h with
  | intro q _ ih =>
   intro x hx e
   subst e
   have:∀ z,Tc R x z->∃ y,R x y/\(y=z\/Tc R y z):=fun z hz=>by
    induction hz with
    | one h=>exact ⟨_,h,.inl rfl⟩
    | more _ k ih2 =>
     obtain ⟨y,h1,h2⟩:=ih2
     refine ⟨y,h1,.inr ?_⟩
     rcases h2 with rfl|h2
     ·exact .one k
     ·exact .more h2 k
   obtain ⟨y,h1,h2⟩:=this x hx
   rcases h2 with rfl|h2
   ·exact ih _ h1 _ (.one h1) rfl
   ·exact ih y h1 y (.more h2 h1) rfl
 exact fun hc=>key q h q hc rfl
def RN (R:Nat->Nat->Prop):Nat->Nat->Nat->Prop
 | 0,x,y=>x=y
 | n+1,x,y=>∃ z,R x z/\RN R n z y
section
variable {R:Nat->Nat->Prop}
theorem RN.app:∀ {m n:Nat} {x y z:Nat},RN R m x y->RN R n y z->RN R (m+n) x z
 | 0,n,x,y,z,h,k=>by cases h; rw [Nat.zero_add]; exact k
 | m+1,n,x,y,z,h,k=>by
  obtain ⟨w,h1,h2⟩:=h
  rw [show m+1+n=(m+n)+1 by omega]
  exact ⟨w,h1,h2.app k⟩
theorem RN.tc:∀ {n:Nat} {x y:Nat},RN R (n+1) x y->Tc R x y
 | 0,x,y,⟨z,h,k⟩=>by cases k; exact .one h
 | n+1,x,y,⟨z,h,k⟩=>(Tc.one h).trans k.tc
theorem Tc.rn {x y:Nat} (h:Tc R x y):∃ n,RN R (n+1) x y:=by
 induction h with
 | one h=>exact ⟨0,_,h,rfl⟩
 | more _ k ih =>
  obtain ⟨n,hn⟩:=ih
  exact ⟨n+1,hn.app (n:=1) ⟨_,k,rfl⟩⟩
theorem RN.fn:∀ {n:Nat} {x y:Nat},RN R n x y->∃ f:Nat->Nat,f 0=x/\f n=y/\∀ i,i<n->R (f i) (f (i+1))
 | 0,x,y,h=>⟨fun _=>x,rfl,h,fun i hi=>by omega⟩
 | n+1,x,y,⟨z,h,k⟩=>by
  obtain ⟨f,h1,h2,h3⟩:=k.fn
  refine ⟨fun i=>if i=0 then x else f (i - 1),rfl,by simp [h2],fun i hi=>?_⟩
  cases i with
  | zero=>simpa [h1] using h
  | succ i =>
   have:=h3 i (by omega)
   simpa using this
theorem RN.of {f:Nat->Nat}:∀ (n i:Nat),(∀ j,i<=j->j<i+n->R (f j) (f (j+1)))->RN R n (f i) (f (i+n))
 | 0,i,_=>rfl
 | n+1,i,h=>by
  refine ⟨f (i+1),h i (Nat.le_refl _) (by omega),?_⟩
  have:=RN.of (f:=f) n (i+1) fun j h1 h2=>h j (by omega) (by omega)
  rwa [show i+1+n=i+(n+1) by omega] at this
theorem z24:∀ (N:Nat) (f:Nat->Nat),(∀ i,i<=N->f i<N)->∃ i j,i<j/\j<=N/\f i=f j
 | 0,f,h=>by have:=h 0 (Nat.le_refl _); omega
 | N+1,f,h=>by
  by_cases hx:∃ i,i<=N/\f i=f (N+1)
  ·obtain ⟨i,h1,h2⟩:=hx
   exact ⟨i,N+1,by omega,Nat.le_refl _,h2⟩
  ·have hx:∀ i,i<=N->f i≠f (N+1):=fun i hi e=>hx ⟨i,hi,e⟩
   have hl:=h (N+1) (Nat.le_refl _)
   obtain ⟨i,j,h1,h2,h3⟩:=z24 N (fun i=>if f i=N then f (N+1) else f i) fun i hi=>by
    have a:=h i (by omega)
    have b:=hx i hi
    show (if f i=N then f (N+1) else f i)<N
    split<;>omega
   refine ⟨i,j,h1,by omega,?_⟩
   have a:=hx i (by omega)
   have b:=hx j h2
   split at h3<;>split at h3<;>omega
theorem RN.cut {N n:Nat} {x y:Nat} (h:RN R n x y) (hn:N<=n) (hr:∀ a b,R a b->b<N) (hx:x<N):∃ i d k z,1<=d/\d<=N/\i+d+k=n/\RN R i x z/\RN R d z z/\RN R k z y:=by
 obtain ⟨f,h1,h2,h3⟩:=h.fn
 have hf:∀ i,i<=N->f i<N:=fun i hi=>by
  cases i with
  | zero=>rw [h1]; exact hx
  | succ i=>exact hr _ _ (h3 i (by omega))
 obtain ⟨i,j,g1,g2,g3⟩:=z24 N f hf
 refine ⟨i,j - i,n - j,f i,by omega,by omega,by omega,?_,?_,?_⟩
 ·have:=RN.of (R:=R) (f:=f) i 0 fun k _ hk=>h3 k (by omega)
  rwa [h1,Nat.zero_add] at this
 ·have:=RN.of (R:=R) (f:=f) (j - i) i fun k _ hk=>h3 k (by omega)
  rw [show i+(j - i)=j by omega,<- g3] at this
  exact this
 ·have:=RN.of (R:=R) (f:=f) (n - j) j fun k _ hk=>h3 k (by omega)
  rw [show j+(n - j)=n by omega,h2,<- g3] at this
  exact this
theorem RN.rep {d:Nat} {z:Nat} (h:RN R d z z):∀ k,RN R (k*d) z z
 | 0=>by rw [Nat.zero_mul]; rfl
 | k+1=>by rw [Nat.succ_mul]; exact (h.rep k).app h
theorem RN.short {N:Nat} {x y:Nat} (hr:∀ a b,R a b->b<N) (hx:x<N):∀ (n:Nat),RN R n x y->N<=n->∃ m,N<=m/\m<2*N/\RN R m x y:=by
 intro n
 induction n using Nat.strongRecOn with
 | ind n ih =>
  intro h hn
  by_cases h2:n<2*N
  ·exact ⟨n,hn,h2,h⟩
  ·obtain ⟨i,d,k,z,d1,d2,e,a,_,c⟩:=h.cut hn hr hx
   exact ih (i+k) (by omega) (a.app c) (by omega)
theorem RN.mono {S:Nat->Nat->Prop} (h:∀ a b,R a b->S a b):∀ {n:Nat} {x y:Nat},RN R n x y->RN S n x y
 | 0,_,_,e=>e
 | _+1,_,_,⟨z,h1,h2⟩=>⟨z,h _ _ h1,h2.mono h⟩
end
end Go.Ab
