/-
Proofs for the law CountIsFinite, part 38. Conditions: none.
-/
import Derived.Test.YtdkocfjbmbenfaaGreatDoorDP35
import Derived.Test.YtdkocfjbmbenfaaGreatDoorDP37
import Derived.Test.YtdkocfjbmbenfaaGreatDoorDP27
set_option maxRecDepth 100000
set_option maxHeartbeats 4000000
set_option linter.all false
namespace Go.Ab
open Enc (enc)
theorem zv7 (k n:Int) (h:0<n):(if k.tmod n<0 then k.tmod n+n else k.tmod n)=k % n:=by
 have h1:=Int.tmod_eq_emod (a:=k) (b:=n)
 have h2:=Int.emod_nonneg k (show n≠0 by omega)
 have h3:=Int.emod_lt_of_pos k h
 rw [h1]
 have h4:(n.natAbs:Int)=n:=by omega
 split<;>split<;>omega
def nx (label:Int) (w:List Int) (a:Nat):Int:=if label=0 then a else if w[a]?=some label then a+1 else -1
end Go.Ab
namespace Go.Ab
open Enc (enc)
attribute [local go_sem] zal Opd.slots
def wthn (v m:Int):Int:=if m<1 then 0 else v % m
theorem ze9 (v:Int) {m:Int} (h:1<=m):0<=wthn v m/\wthn v m<m:=by
 unfold wthn; rw [if_neg (by omega)]
 exact ⟨Int.emod_nonneg v (by omega),Int.emod_lt_of_pos v (by omega)⟩
theorem zj2 (v m:Int) (hm:m<=1000000):Sp P F.bb [.int .i64 v,.int .i64 m] (.pure (.int .i64 (wthn v m))):=by
 refine Sp.vz c.bb fun _=>?_
 unfold wthn
 by_cases h:m<1
 ·simp [g.bb,go_sem,h]
 ·have h1:=zv7 v m (by omega)
  have h2:=Int.emod_nonneg v (show m≠0 by omega)
  have h3:=Int.emod_lt_of_pos v (show 0<m by omega)
  simp [g.bb,go_sem,h]
  refine ⟨by omega,fun h4=>?_,fun h4=>?_⟩
  ·rw [if_pos h4] at h1
   rw [h1,i64w (by omega) (by omega)]
  ·rw [if_neg (by omega)] at h1
   exact h1
def tk (L:List Int) (at_:Nat) (m:Int):Int:=if at_<L.length then wthn (L.getD at_ 0) m else 0
def tn (L:List Int) (at_:Nat):Nat:=if at_<L.length then at_+1 else at_
theorem zo7 (L:List Int) (at_:Nat) {m:Int} (h:1<=m):0<=tk L at_ m/\tk L at_ m<m:=by
 unfold tk; split
 ·exact ze9 _ h
 ·omega
theorem zib {L:List Int} {at_:Nat} (h:at_<=L.length):tn L at_<=L.length:=by unfold tn; split<;>omega
def hpT (L:List Int) (at_:Nat):List Site:=[(900003,[some ⟨2,[.p (.agg [.sl (ens L),.int .i64 at_])]⟩])]
theorem zo6 (L:List Int) (at_:Nat) (m:Int) (hm:m<=1000000) (hat:at_<=L.length) (hL:L.length<=9223372036854775807) :
  HSp P F.ae [.ptr 900003 0 0 0,.p (.int .i64 m)] (hpT L at_) (.p (.int .i64 (tk L at_ m))) (hpT L (tn L at_)):=by
 refine HSp.of_mr c.ae (by simp) (by simp [hpT,PINB]) (by simp [hpT]) ?_ fun A0 hA0=>MR.of_vm ?_
 ·simp [hpT,zbx,hpOk,zfd,zav]
 simp [g.ae,go_sem,zbi,hpT]
 unfold tk tn
 refine ⟨fun h=>?_,fun h=>?_⟩
 ·have h1:¬ at_<L.length:=by omega
  rw [if_neg h1,if_neg h1]
  refine ⟨.inl rfl,_,Weak.refl _,_,rfl,?_,?_⟩
  ·simp [go_sem]
  ·simp [zbb,St.site,look]
 ·have h1:at_<L.length:=by omega
  have e1:=i64s at_ (by omega)
  have e2:IntKind.i64.wrap (((at_+1:Nat):Int) - 1)=(at_:Int):=by rw [i64w (by omega) (by omega)]; omega
  rw [if_pos h1,if_pos h1]
  simp [go_sem,e1]
  have e3:IntKind.i64.wrap (at_:Int)=(at_:Int):=i64w (by omega) (by omega)
  rw [e3,Int.toNat_natCast]
  refine zae h1 ⟨by omega,?_⟩
  have hg:L.getD at_ 0=L[at_]:=by rw [List.getD_eq_getElem?_getD,List.getElem?_eq_getElem h1]; rfl
  refine zaf (zj2 L[at_] m hm) ?_
  simp [go_sem]
  refine ⟨.inl rfl,_,Weak.refl _,_,rfl,?_,?_⟩
  ·simp [go_sem,h1]
  ·simp [zbb,St.site,look]
theorem zow {e:Nat} {L:List Int} {at_:Nat} {m:Int} {st:St} {K:PCall->AV->St->Prop} (hm:m<=1000000) (hat:at_<=L.length) (hL:L.length<=9223372036854775807) (hk:zbb st (hpT L at_) (hpT L at_))
  (k:∀ c,K c (.p (.int .i64 (tk L at_ m))) ⟨st.sl,hpT L (tn L at_)++st.hp⟩):zfs P st e F.ae [.ptr 900003 0 0 0,.p (.int .i64 m)] K:=by
 refine zdo (zo6 L at_ m hm hat hL) (by simp [zc1]) hk rfl ?_ (k _)
 simp [hpT,zbx,hpOk,zfd,zav,zeo]
def wtT (L:List Int) (at_:Nat):GW:=if tk L at_ 8=0 then .mk gr0 0 true 0 [] [] else .mk gr0 (tk L (tn L at_) 6) false 0 [] []
def wnT (L:List Int) (at_:Nat):Nat:=if tk L at_ 8=0 then tn L at_ else tn L (tn L at_)
theorem z6u {L:List Int} {at_:Nat} (h:at_<=L.length):wnT L at_<=L.length:=by
 unfold wnT; split
 ·exact zib h
 ·exact zib (zib h)
theorem zqt (L:List Int) (at_:Nat) (hat:at_<=L.length) (hL:L.length<=9223372036854775807) :
  HSp P F.cd [.p (.int .i64 2),.ptr 900003 0 0 0] (hpT L at_) (.p (enc (wtT L at_))) (hpT L (wnT L at_)):=by
 refine HSp.of_mr c.cd (by simp) (by simp [hpT,PINB]) (by simp [hpT]) ?_ fun A0 hA0=>MR.of_vm ?_
 ·simp [hpT,zbx,hpOk,zfd,zav]
 have h2:=zib hat
 unfold wtT wnT
 simp [g.cd,go_sem,zbi,hpT]
 refine zow (by omega) hat hL (by simp [zbb,St.site,look,hpT]) fun _=>?_
 simp [go_sem,hpT]
 refine ⟨fun h=>?_,fun h=>?_⟩
 ·simp only [h,if_true]
  refine ⟨.inl rfl,_,Weak.freezeTo (s:=4) (g:=0) (n:=2) [enc (GW.mk gr0 0 true 0 [] [])] [] rfl (by simp [go_sem,gr0]) (by simp [go_sem]) (by simp),_,rfl,?_,?_⟩
  ·simp [go_sem,gr0]
  ·simp [zbb,St.site,look,killAll,St.setObj]
 ·simp only [h,if_false]
  refine zow (by omega) h2 hL (by simp [zbb,St.site,look,hpT]) fun _=>?_
  simp [go_sem,hpT]
  refine ⟨.inl rfl,_,Weak.freezeTo (s:=4) (g:=0) (n:=2) [enc (GW.mk gr0 (tk L (tn L at_) 6) false 0 [] [])] [] rfl (by simp [go_sem,gr0]) (by simp [go_sem]) (by simp),_,rfl,?_,?_⟩
  ·simp [go_sem,gr0]
  ·simp [zbb,St.site,look,killAll,St.setObj]
end Go.Ab
namespace Go.Ab
open Enc (enc)
attribute [local go_sem] zal Opd.slots
structure GPlan where
 st:Int
 sy:Int
 fw:Bool
 sg:Bool
 L:List Int
instance:Enc GPlan:=⟨fun x=>.agg [.int .i64 x.st,.int .i64 x.sy,.bool x.fw,.bool x.sg,.sl (ens x.L)],5,by decide,fun _=>rfl⟩
@[go_sem] theorem z10 (x:GPlan):enc x=.agg [.int .i64 x.st,.int .i64 x.sy,.bool x.fw,.bool x.sg,.sl (ens x.L)]:=rfl
@[go_sem] theorem z6g:Enc.sz GPlan=5:=rfl
structure WKd where
 k:Int
 wt:List Int->Nat->GW
 wn:List Int->Nat->Nat
def WKd.r (W:WKd):GRing:=⟨W.k,[]⟩
structure WKd.good (W:WKd):Prop where
 le:∀ L at_,at_<=L.length->W.wn L at_<=L.length
 sp:∀ L at_,at_<=L.length->L.length<=9223372036854775807->HSp P F.cd [.p (.int .i64 W.k),.ptr 900003 0 0 0] (hpT L at_) (.p (enc (W.wt L at_))) (hpT L (W.wn L at_))
def wkT:WKd:=⟨2,wtT,wnT⟩
theorem zz4:wkT.good:=⟨fun _ _ h=>z6u h,fun L at_ h hL=>zqt L at_ h hL⟩
def pA (W:WKd) (L:List Int):Nat->Nat
 | 0=>0
 | s+1=>tn L (tn L (W.wn L (W.wn L (pA W L s))))
theorem z4i {W:WKd} (hW:W.good) (L:List Int):∀ s,pA W L s<=L.length
 | 0=>Nat.zero_le _
 | s+1=>zib (zib (hW.le _ _ (hW.le _ _ (z4i hW L s))))
def iE (W:WKd) (p:GPlan) (s:Nat):GW:=if (tk p.L (W.wn p.L (W.wn p.L (pA W p.L s))) 2=0\/p.sg=true)/\0<s then W.r.zero else W.wt p.L (pA W p.L s)
def fE (W:WKd) (p:GPlan) (N s:Nat):GW:=if tk p.L (tn p.L (W.wn p.L (W.wn p.L (pA W p.L s)))) 2=0/\s+1<N then W.r.zero else W.wt p.L (W.wn p.L (pA W p.L s))
def z7:AV:=.agg [.p (.int .i64 0),.nil,.p (.int .i64 0),.p (.int .i64 0),.nil,.nil,.nil]
def q1S (W:WKd) (p:GPlan) (sy:Int) (N k:Nat):St :=
 ⟨[(1,.p (.int .i64 W.k)),(3,.ptr 3 0 0 0),(6,.ptr 6 0 0 0),(7,.ptr 900003 0 0 0),(8,.ptr 8 0 0 0),(9,.p (.int .i64 k))],
  hpT p.L (pA W p.L k)++[(3,[some ⟨5,[.p (enc p)]⟩]),(6,[some ⟨7,[z7]⟩]),(8,[some ⟨7,[.agg [.p (.int .i64 W.k),.nil,.p (.int .i64 sy),.p (.int .i64 N),.own 1 0 0 k,.own 2 0 0 k,.nil]]⟩]),(1,[some ⟨8,avs (mp k (iE W p))⟩]),(2,[some ⟨8,avs (mp k (fE W p N))⟩]),(DEAD,[none])]⟩
theorem z36 {W:WKd} (hW:W.good) {p:GPlan} {sy:Int} {N:Nat} (hN:N<=64) (hL:p.L.length<=9223372036854775807) {Q:Exit->St->Prop} {ks:List Kt} {st:St} (hw:Weak st (q1S W p sy N 0)) (hx:zd0 P 185 Q (zbh 0 ks) 0 (q1S W p sy N N)):vL P 185 Q g.l9 ks st:=by
 refine zai (S:=fun k:Nat=>q1S W p sy N k) (I:=fun k=>k<=N) (m:=fun k=>N - k) 0 hw (by omega) ?_
 rintro k hk R hn' hr hx'
 have e1:=i64s k (by omega)
 have e2:IntKind.i64.wrap ((N:Int) - 1)=(N:Int) - 1:=i64w (by omega) (by omega)
 have a0:=z4i hW p.L k
 have a1:=hW.le _ _ a0
 have a2:=hW.le _ _ a1
 have a3:=zib a2
 simp [g.l9,q1S,hpT,z7,go_sem]
 refine ⟨fun hlt=>?_,fun hge=>?_⟩
 ·have hw1:=hW.sp p.L (pA W p.L k) a0 hL
  have hw2:=hW.sp p.L (W.wn p.L (pA W p.L k)) a1 hL
  have hi:mp (k+1) (iE W p)=mp k (iE W p)++[iE W p k]:=zrf k _
  have hf:mp (k+1) (fE W p N)=mp k (fE W p N)++[fE W p N k]:=zrf k _
  have hik:iE W p k=if (tk p.L (W.wn p.L (W.wn p.L (pA W p.L k))) 2=0\/p.sg=true)/\0<k then W.r.zero else W.wt p.L (pA W p.L k):=rfl
  have hfk:fE W p N k=if tk p.L (tn p.L (W.wn p.L (W.wn p.L (pA W p.L k)))) 2=0/\k+1<N then W.r.zero else W.wt p.L (W.wn p.L (pA W p.L k)):=rfl
  have hpk:pA W p.L (k+1)=tn p.L (tn p.L (W.wn p.L (W.wn p.L (pA W p.L k)))):=rfl
  refine zdo hw1 (by simp [zc1]) (by simp [zbb,St.site,look,hpT]) rfl (by simp [hpT,zbx,hpOk,zfd,zav,zeo]) ?_
  simp [go_sem,zdj,hpT]
  refine zdo hw2 (by simp [zc1]) (by simp [zbb,St.site,look,hpT]) rfl (by simp [hpT,zbx,hpOk,zfd,zav,zeo]) ?_
  simp [go_sem,zdj,hpT]
  refine zow (by omega) a2 hL (by simp [zbb,St.site,look,hpT]) fun _=>?_
  generalize pA W p.L k=at0 at *
  generalize W.wt p.L at0=x at *
  generalize W.wt p.L (W.wn p.L at0)=y at *
  generalize W.wn p.L (W.wn p.L at0)=at2 at *
  have hz:[AV.p (.int .i64 W.k),AV.nil]=[.p (.int .i64 W.k),.nil]:=rfl
  have hzero:=zz2 W.r
  generalize hie:iE W p k=xe at *
  generalize hfe:fE W p N k=ye at *
  by_cases c0:tk p.L at2 2=0
  all_goals by_cases ck:0<k
  all_goals cases hsg:p.sg
  all_goals simp [c0,ck,hsg] at hik
  all_goals simp [go_sem,hpT,c0,ck,hsg]
  all_goals first|(refine zaa hzero (by simp [go_sem,WKd.r]) ?_; simp [go_sem])|skip
  all_goals rw [<- hik]
  all_goals refine zow (by omega) a3 hL (by simp [zbb,St.site,look,hpT]) fun _=>?_
  all_goals by_cases c3:tk p.L (tn p.L at2) 2=0
  all_goals by_cases c4:k+1<N
  all_goals simp [c3,c4] at hfk
  all_goals have c5:((k:Int)<(N:Int) - 1)=(k+1<N):=by rw [eq_iff_iff]; omega
  all_goals simp [go_sem,hpT,c3,e2,c5,c4]
  all_goals first|(refine zaa hzero (by simp [go_sem,WKd.r]) ?_; simp [go_sem])|skip
  all_goals rw [<- hfk]
  all_goals simp [go_sem,zbu,e1]
  all_goals refine ⟨by omega,hn' (k+1) _ (Weak.toF [1,3,6,7,8,9] [900003] [((3,0),3),((6,0),6),((8,0),8),((79,0),1),((84,0),2)] ?_) (by omega) (by omega)⟩
  all_goals simp [go_sem,q1S,hpT,z7,hi,hf,hpk,hsg]
 ·have:k=N:=by omega
  subst this
  exact hx' _ _ (by simpa [q1S,hpT,z7,go_sem] using hx)
end Go.Ab
namespace Go.Ab
open Enc (enc)
attribute [local go_sem] zal Opd.slots
def thB (arcs:List GArc) (x:GArc) (k:Nat):Bool:=(arcs.take k).any fun a=>decide (a.f=x.f)&&decide (a.l=x.l)
theorem z0d (arcs:List GArc) (x:GArc) {k:Nat} (h:k<arcs.length):thB arcs x (k+1)=(thB arcs x k||(decide (arcs[k].f=x.f)&&decide (arcs[k].l=x.l))):=by
 unfold thB
 rw [List.take_succ_eq_append_getElem h,List.any_append]; simp
def q2S (W:WKd) (p:GPlan) (sy:Int) (N i at_:Nat) (ini fin:List GW) (arcs:List GArc) (x:GArc) (k:Nat):St :=
 ⟨[(1,.p (.int .i64 W.k)),(3,.ptr 3 0 0 0),(6,.ptr 6 0 0 0),(7,.ptr 900003 0 0 0),(8,.ptr 8 0 0 0),(12,.p (.int .i64 i)),(13,.ptr 13 0 0 0),(14,.p (.bool (thB arcs x k))),(15,.p (.int .i64 k))],
  hpT p.L at_++[(3,[some ⟨5,[.p (enc p)]⟩]),(6,[some ⟨7,[z7]⟩]),(8,[some ⟨7,[.agg [.p (.int .i64 W.k),.nil,.p (.int .i64 sy),.p (.int .i64 N),.own 1 0 0 N,.own 2 0 0 N,.own 5 0 0 arcs.length]]⟩]),(1,[some ⟨8,avs ini⟩]),(2,[some ⟨8,avs fin⟩]),(5,[some ⟨11,avs arcs⟩]),(13,[some ⟨11,[.p (enc x)]⟩]),(DEAD,[none])]⟩
theorem zq6 {W:WKd} {p:GPlan} {sy:Int} {N i at_:Nat} {ini fin:List GW} {arcs:List GArc} {x:GArc} (hl:arcs.length<=1000) {Q:Exit->St->Prop} {ks:List Kt} {st:St} (hw:Weak st (q2S W p sy N i at_ ini fin arcs x 0)) (hx:zd0 P 185 Q (zbh 4 ks) 4 (q2S W p sy N i at_ ini fin arcs x arcs.length)):vL P 185 Q g.k9 ks st:=by
 refine zai (S:=fun k:Nat=>q2S W p sy N i at_ ini fin arcs x k) (I:=fun k=>k<=arcs.length) (m:=fun k=>arcs.length - k) 0 hw (by omega) ?_
 rintro k hk R hn' hr hx'
 have e1:=i64s k (by omega)
 by_cases hlt:k<arcs.length
 ·have hs:=z0d arcs x hlt
  have hlt2:(k:Int)<(arcs.length:Int):=by omega
  simp [g.k9,q2S,hpT,z7,go_sem,hlt2,hlt]
  cases ht:thB arcs x k with
  | true =>
   rw [ht] at hs
   simp [go_sem,e1,ht]
   refine hn' (k+1) _ (Weak.toF [1,3,6,7,8,12,13,14,15] [900003] [((3,0),3),((6,0),6),((8,0),8),((1,0),1),((2,0),2),((5,0),5),((13,0),13)] ?_) (by omega) (by omega)
   simp [go_sem,q2S,hpT,z7,hs]
  | false =>
   rw [ht] at hs
   simp [go_sem,ht,hlt]
   refine zae hlt ?_
   by_cases h1:arcs[k].f=x.f
   ·simp [go_sem,h1,hlt]
    refine zae hlt ?_
    by_cases h2:arcs[k].l=x.l
    all_goals
     simp [h1,h2] at hs
     simp [go_sem,e1,h2]
     refine hn' (k+1) _ (Weak.toF [1,3,6,7,8,12,13,14,15] [900003] [((3,0),3),((6,0),6),((8,0),8),((1,0),1),((2,0),2),((5,0),5),((13,0),13)] ?_) (by omega) (by omega)
     simp [go_sem,q2S,hpT,z7,hs]
   ·simp [h1] at hs
    simp [go_sem,e1,h1]
    refine hn' (k+1) _ (Weak.toF [1,3,6,7,8,12,13,14,15] [900003] [((3,0),3),((6,0),6),((8,0),8),((1,0),1),((2,0),2),((5,0),5),((13,0),13)] ?_) (by omega) (by omega)
    simp [go_sem,q2S,hpT,z7,hs]
 ·have:k=arcs.length:=by omega
  subst this
  simp [g.k9,q2S,hpT,z7,go_sem]
  exact hx' _ _ (by simpa [q2S,hpT,z7,go_sem] using hx)
end Go.Ab
namespace Go.Ab
open Enc (enc)
attribute [local go_sem] zal Opd.slots
def arcP (W:WKd) (L:List Int) (at_:Nat) (N:Nat) (sy:Int):GArc:=⟨tk L at_ N,1+tk L (tn L at_) sy,tk L (tn L (tn L at_)) N,W.wt L (tn L (tn L (tn L at_)))⟩
def arN (W:WKd) (L:List Int) (at_:Nat):Nat:=W.wn L (tn L (tn L (tn L at_)))
def swA (fw:Bool) (x:GArc):GArc:=if fw=true/\x.t<x.f then ⟨x.t,x.l,x.f,x.w⟩ else x
def zoa (p:GPlan) (arcs:List GArc) (x:GArc):List GArc:=if p.fw=true/\x.f=x.t then arcs else if p.sg=true/\thB arcs (swA p.fw x) arcs.length=true then arcs else arcs++[swA p.fw x]
def zo8 (W:WKd) (p:GPlan) (sy:Int) (N:Nat) (s:Nat × List GArc):Nat × List GArc :=
 if s.1<p.L.length/\0<N then (arN W p.L s.1,zoa p s.2 (arcP W p.L s.1 N sy)) else s
def a3 (W:WKd) (p:GPlan) (sy:Int) (N:Nat) (at0:Nat):Nat->Nat × List GArc
 | 0=>(at0,[])
 | i+1=>zo8 W p sy N (a3 W p sy N at0 i)
theorem zzz {W:WKd} {p:GPlan} {sy:Int} {N at0 i:Nat} (h:¬ ((a3 W p sy N at0 i).1<p.L.length/\0<N)):∀ k,a3 W p sy N at0 (i+k)=a3 W p sy N at0 i
 | 0=>rfl
 | k+1=>by
  show zo8 W p sy N (a3 W p sy N at0 (i+k))=_
  rw [zzz h k]; unfold zo8; rw [if_neg h]
theorem zyf (p:GPlan) (arcs:List GArc) (x:GArc):(zoa p arcs x).length<=arcs.length+1:=by
 unfold zoa; split
 ·omega
 ·split
  ·omega
  ·simp
theorem zua (W:WKd) (p:GPlan) (sy:Int) (N at0:Nat):∀ i,(a3 W p sy N at0 i).2.length<=i
 | 0=>by simp [a3]
 | i+1=>by
  have ih:=zua W p sy N at0 i
  simp only [a3,zo8]
  split
  ·exact Nat.le_trans (zyf _ _ _) (by omega)
  ·omega
theorem z9a {W:WKd} (hW:W.good) (p:GPlan) (sy:Int) (N:Nat) {at0:Nat} (h:at0<=p.L.length):∀ i,(a3 W p sy N at0 i).1<=p.L.length
 | 0=>h
 | i+1=>by
  have ih:=z9a hW p sy N h i
  simp only [a3,zo8]
  split
  ·exact hW.le _ _ (zib (zib (zib ih)))
  ·exact ih
def q3S (W:WKd) (p:GPlan) (sy:Int) (N:Nat) (ini fin:List GW) (i:Nat) (s:Nat × List GArc):St :=
 ⟨[(1,.p (.int .i64 W.k)),(3,.ptr 3 0 0 0),(6,.ptr 6 0 0 0),(7,.ptr 900003 0 0 0),(8,.ptr 8 0 0 0),(12,.p (.int .i64 i))],
  hpT p.L s.1++[(3,[some ⟨5,[.p (enc p)]⟩]),(6,[some ⟨7,[z7]⟩]),(8,[some ⟨7,[.agg [.p (.int .i64 W.k),.nil,.p (.int .i64 sy),.p (.int .i64 N),.own 1 0 0 N,.own 2 0 0 N,.own 5 0 0 s.2.length]]⟩]),(1,[some ⟨8,avs ini⟩]),(2,[some ⟨8,avs fin⟩]),(5,[some ⟨11,avs s.2⟩]),(DEAD,[none])]⟩
theorem zov {e:Nat} {L:List Int} {at_:Nat} {m:Int} {st:St} {K:PCall->AV->St->Prop} (hm:m<=1000000) (hat:at_<=L.length) (hL:L.length<=9223372036854775807) (hk:zbb st (hpT L at_) (hpT L at_))
  (k:K ⟨F.ae,[],.hsp [.ptr 900003 0 0 0,.p (.int .i64 m)] (hpT L at_) (.av (.p (.int .i64 (tk L at_ m)))) (hpT L (tn L at_)),none⟩ (.p (.int .i64 (tk L at_ m))) ⟨st.sl,hpT L (tn L at_)++st.hp⟩):zfs P st e F.ae [.ptr 900003 0 0 0,.p (.int .i64 m)] K:=by
 refine zdo (zo6 L at_ m hm hat hL) (by simp [zc1]) hk rfl ?_ k
 simp [hpT,zbx,hpOk,zfd,zav,zeo]
theorem z35 {W:WKd} (hW:W.good) {p:GPlan} {sy:Int} {N at0:Nat} {ini fin:List GW} (hN:N<=64) (hsy:1<=sy/\sy<=64) (hL:p.L.length<=9223372036854775807) (h0:at0<=p.L.length) {Q:Exit->St->Prop} {ks:List Kt} {st:St} (hw:Weak st (q3S W p sy N ini fin 0 (at0,[])))
  (hx:∀ i,zd0 P 185 Q (zbh 2 ks) 2 (q3S W p sy N ini fin i (a3 W p sy N at0 14))):vL P 185 Q g.ma ks st:=by
 refine zai (S:=fun i:Nat=>q3S W p sy N ini fin i (a3 W p sy N at0 i)) (I:=fun i=>i<=14) (m:=fun i=>14 - i) 0 hw (by omega) ?_
 rintro i hi R hn' hr hx'
 have e1:=i64s i (by omega)
 have b0:=z9a hW p sy N h0 i
 have bl:=zua W p sy N at0 i
 have hstay:=zzz (W:=W) (p:=p) (sy:=sy) (N:=N) (at0:=at0) (i:=i)
 have hsuc:a3 W p sy N at0 (i+1)=zo8 W p sy N (a3 W p sy N at0 i):=rfl
 generalize hs:a3 W p sy N at0 i=s at *
 obtain ⟨at_,arcs⟩:=s
 simp only at b0 bl hstay
 simp [g.ma,q3S,hpT,z7,go_sem]
 have hout:(¬ (at_<p.L.length/\0<N)\/¬ i<14)->zd0 P 185 Q (zbh 2 ks) 2 (q3S W p sy N ini fin i (at_,arcs)):=fun h=>by
  have hh:=hx i
  have:a3 W p sy N at0 14=(at_,arcs):=by
   by_cases hc:at_<p.L.length/\0<N
   ·have:i=14:=by omega
    rw [<- hs,this]
   ·have:=hstay hc (14 - i)
    rw [show i+(14 - i)=14 by omega] at this
    exact this
  rw [this] at hh; exact hh
 have hexit:(¬ (at_<p.L.length/\0<N)\/¬ i<14)->R (.exit 2) (q3S W p sy N ini fin i (at_,arcs)):=fun h=>hx' _ _ (hout h)
 refine ⟨fun h1=>⟨fun h2=>⟨fun h3=>?_,fun h3=>?_⟩,fun h2=>?_⟩,fun h1=>?_⟩
 rotate_left
 ·simpa [q3S,hpT,z7,go_sem] using hexit (.inl (by omega))
 ·simpa [q3S,hpT,z7,go_sem] using hexit (.inr (by omega))
 ·simpa [q3S,hpT,z7,go_sem] using hexit (.inl (by omega))
 have b1:=zib b0
 have b2:=zib b1
 have b3:=zib b2
 have hw1:=hW.sp p.L _ b3 hL
 have hstep:a3 W p sy N at0 (i+1)=(arN W p.L at_,zoa p arcs (arcP W p.L at_ N sy)):=by rw [hsuc]; unfold zo8; rw [if_pos ⟨h1,h3⟩]
 have hend:∀ st',Weak st' (q3S W p sy N ini fin (i+1) (arN W p.L at_,zoa p arcs (arcP W p.L at_ N sy)))->R .normal st':=fun st' h=>hn' (i+1) st' (by rw [hstep]; exact h) (by omega) (by omega)
 have r1:=zo7 p.L (tn p.L at_) hsy.1
 have e2:IntKind.i64.wrap (1+tk p.L (tn p.L at_) sy)=1+tk p.L (tn p.L at_) sy:=i64w (by omega) (by omega)
 refine zov (by omega) b0 hL (by simp [zbb,St.site,look,hpT]) ?_
 simp [go_sem,hpT]
 refine zov (by omega) b1 hL (by simp [zbb,St.site,look,hpT]) ?_
 simp [go_sem,hpT,e2]
 refine zov (by omega) b2 hL (by simp [zbb,St.site,look,hpT]) ?_
 simp [go_sem,hpT]
 refine zdo hw1 (by simp [zc1]) (by simp [zbb,St.site,look,hpT]) rfl (by simp [hpT,zbx,hpOk,zfd,zav,zeo]) ?_
 simp [go_sem,zdj,hpT]
 have hX:arcP W p.L at_ N sy=⟨tk p.L at_ N,1+tk p.L (tn p.L at_) sy,tk p.L (tn p.L (tn p.L at_)) N,W.wt p.L (tn p.L (tn p.L (tn p.L at_)))⟩:=rfl
 have hM:arN W p.L at_=W.wn p.L (tn p.L (tn p.L (tn p.L at_))):=rfl
 rw [<- hM]
 generalize arN W p.L at_=atn at *
 generalize W.wt p.L (tn p.L (tn p.L (tn p.L at_)))=ww at *
 generalize tk p.L at_ N=xf at *
 generalize tk p.L (tn p.L (tn p.L at_)) N=xt at *
 generalize 1+tk p.L (tn p.L at_) sy=xl at *
 generalize arcP W p.L at_ N sy=x at *
 subst hX
 have hke0:zoa p arcs (⟨xf,xl,xt,ww⟩:GArc)=if p.fw=true/\xf=xt then arcs else if p.sg=true/\thB arcs (swA p.fw (⟨xf,xl,xt,ww⟩:GArc)) arcs.length=true then arcs else arcs++[swA p.fw (⟨xf,xl,xt,ww⟩:GArc)]:=rfl
 have hsw:swA p.fw (⟨xf,xl,xt,ww⟩:GArc)=if p.fw=true/\xt<xf then (⟨xt,xl,xf,ww⟩:GArc) else (⟨xf,xl,xt,ww⟩:GArc):=rfl
 cases hfw:p.fw with
 | false =>
  simp [go_sem]
  have hfn:¬ p.fw=true:=by rw [hfw]; exact Bool.false_ne_true
  have hsy2:swA p.fw (⟨xf,xl,xt,ww⟩:GArc)=(⟨xf,xl,xt,ww⟩:GArc):=by rw [hsw,if_neg (show ¬ (p.fw=true/\xt<xf) from fun h=>hfn h.1)]
  have hke:=hke0
  rw [if_neg (show ¬ (p.fw=true/\xf=xt) from fun h=>hfn h.1),hsy2] at hke
  refine zq6 (W:=W) (p:=p) (sy:=sy) (N:=N) (i:=i) (at_:=atn) (ini:=ini) (fin:=fin) (arcs:=arcs) (x:=(⟨xf,xl,xt,ww⟩:GArc)) (by omega) (Weak.toF [1,3,6,7,8,12,13,14,15] [900003] [((3,0),3),((6,0),6),((8,0),8),((1,0),1),((2,0),2),((5,0),5),((13,0),13)] ?_) ?_
  ·simp [go_sem,q2S,hpT,z7,thB,hfw]
  simp [q2S,hpT,z7,go_sem,hfw]
  cases hsg:p.sg with
  | true =>
   cases hth:thB arcs (⟨xf,xl,xt,ww⟩:GArc) arcs.length with
   | true =>
    simp [go_sem,e1]
    rw [if_pos ⟨hsg,hth⟩] at hke
    refine hend _ (Weak.toF [1,3,6,7,8,12] [900003] [((3,0),3),((6,0),6),((8,0),8),((1,0),1),((2,0),2),((5,0),5)] ?_)
    simp [go_sem,q3S,hpT,z7,hfw,hsg,hke]
   | false =>
    simp [go_sem,e1]
    rw [if_neg (fun h=>Bool.false_ne_true (hth.symm.trans h.2))] at hke
    refine ⟨by omega,hend _ (Weak.toF [1,3,6,7,8,12] [900003] [((3,0),3),((6,0),6),((8,0),8),((1,0),1),((2,0),2),((182,0),5)] ?_)⟩
    simp [go_sem,q3S,hpT,z7,hfw,hsg,hke]
  | false =>
   simp [go_sem,e1]
   rw [if_neg (fun h=>Bool.false_ne_true (hsg.symm.trans h.1))] at hke
   refine ⟨by omega,hend _ (Weak.toF [1,3,6,7,8,12] [900003] [((3,0),3),((6,0),6),((8,0),8),((1,0),1),((2,0),2),((182,0),5)] ?_)⟩
   simp [go_sem,q3S,hpT,z7,hfw,hsg,hke]
 | true =>
  by_cases hft:xf=xt
  ·have hke:=hke0
   rw [if_pos ⟨hfw,hft⟩] at hke
   simp [go_sem,e1,hft]
   refine hend _ (Weak.toF [1,3,6,7,8,12] [900003] [((3,0),3),((6,0),6),((8,0),8),((1,0),1),((2,0),2),((5,0),5)] ?_)
   simp [go_sem,q3S,hpT,z7,hfw,hke]
  ·by_cases hlt:xt<xf
   ·have hsy2:swA p.fw (⟨xf,xl,xt,ww⟩:GArc)=(⟨xt,xl,xf,ww⟩:GArc):=by rw [hsw,if_pos ⟨hfw,hlt⟩]
    have hke:=hke0
    rw [if_neg (show ¬ (p.fw=true/\xf=xt) from fun h=>hft h.2),hsy2] at hke
    simp [go_sem,hft,hlt]
    refine zq6 (W:=W) (p:=p) (sy:=sy) (N:=N) (i:=i) (at_:=atn) (ini:=ini) (fin:=fin) (arcs:=arcs) (x:=(⟨xt,xl,xf,ww⟩:GArc)) (by omega) (Weak.toF [1,3,6,7,8,12,13,14,15] [900003] [((3,0),3),((6,0),6),((8,0),8),((1,0),1),((2,0),2),((5,0),5),((13,0),13)] ?_) ?_
    ·simp [go_sem,q2S,hpT,z7,thB,hfw]
    simp [q2S,hpT,z7,go_sem,hfw]
    cases hsg:p.sg with
    | true =>
     cases hth:thB arcs (⟨xt,xl,xf,ww⟩:GArc) arcs.length with
     | true =>
      simp [go_sem,e1]
      rw [if_pos ⟨hsg,hth⟩] at hke
      refine hend _ (Weak.toF [1,3,6,7,8,12] [900003] [((3,0),3),((6,0),6),((8,0),8),((1,0),1),((2,0),2),((5,0),5)] ?_)
      simp [go_sem,q3S,hpT,z7,hfw,hsg,hke]
     | false =>
      simp [go_sem,e1]
      rw [if_neg (fun h=>Bool.false_ne_true (hth.symm.trans h.2))] at hke
      refine ⟨by omega,hend _ (Weak.toF [1,3,6,7,8,12] [900003] [((3,0),3),((6,0),6),((8,0),8),((1,0),1),((2,0),2),((182,0),5)] ?_)⟩
      simp [go_sem,q3S,hpT,z7,hfw,hsg,hke]
    | false =>
     simp [go_sem,e1]
     rw [if_neg (fun h=>Bool.false_ne_true (hsg.symm.trans h.1))] at hke
     refine ⟨by omega,hend _ (Weak.toF [1,3,6,7,8,12] [900003] [((3,0),3),((6,0),6),((8,0),8),((1,0),1),((2,0),2),((182,0),5)] ?_)⟩
     simp [go_sem,q3S,hpT,z7,hfw,hsg,hke]
   ·have hsy2:swA p.fw (⟨xf,xl,xt,ww⟩:GArc)=(⟨xf,xl,xt,ww⟩:GArc):=by rw [hsw,if_neg (show ¬ (p.fw=true/\xt<xf) from fun h=>hlt h.2)]
    have hke:=hke0
    rw [if_neg (show ¬ (p.fw=true/\xf=xt) from fun h=>hft h.2),hsy2] at hke
    simp [go_sem,hft,hlt]
    refine zq6 (W:=W) (p:=p) (sy:=sy) (N:=N) (i:=i) (at_:=atn) (ini:=ini) (fin:=fin) (arcs:=arcs) (x:=(⟨xf,xl,xt,ww⟩:GArc)) (by omega) (Weak.toF [1,3,6,7,8,12,13,14,15] [900003] [((3,0),3),((6,0),6),((8,0),8),((1,0),1),((2,0),2),((5,0),5),((13,0),13)] ?_) ?_
    ·simp [go_sem,q2S,hpT,z7,thB,hfw]
    simp [q2S,hpT,z7,go_sem,hfw]
    cases hsg:p.sg with
    | true =>
     cases hth:thB arcs (⟨xf,xl,xt,ww⟩:GArc) arcs.length with
     | true =>
      simp [go_sem,e1]
      rw [if_pos ⟨hsg,hth⟩] at hke
      refine hend _ (Weak.toF [1,3,6,7,8,12] [900003] [((3,0),3),((6,0),6),((8,0),8),((1,0),1),((2,0),2),((5,0),5)] ?_)
      simp [go_sem,q3S,hpT,z7,hfw,hsg,hke]
     | false =>
      simp [go_sem,e1]
      rw [if_neg (fun h=>Bool.false_ne_true (hth.symm.trans h.2))] at hke
      refine ⟨by omega,hend _ (Weak.toF [1,3,6,7,8,12] [900003] [((3,0),3),((6,0),6),((8,0),8),((1,0),1),((2,0),2),((182,0),5)] ?_)⟩
      simp [go_sem,q3S,hpT,z7,hfw,hsg,hke]
    | false =>
     simp [go_sem,e1]
     rw [if_neg (fun h=>Bool.false_ne_true (hsg.symm.trans h.1))] at hke
     refine ⟨by omega,hend _ (Weak.toF [1,3,6,7,8,12] [900003] [((3,0),3),((6,0),6),((8,0),8),((1,0),1),((2,0),2),((182,0),5)] ?_)⟩
     simp [go_sem,q3S,hpT,z7,hfw,hsg,hke]
end Go.Ab
namespace Go.Ab
open Enc (enc)
attribute [local go_sem] zal Opd.slots
def autN (p:GPlan) (most:Int):Nat:=(wthn p.st (most+1)).toNat
def autS (p:GPlan):Int:=1+wthn p.sy 3
def zqs (W:WKd) (p:GPlan) (most:Int):GAuto :=
 ⟨W.r,autS p,autN p most,mp (autN p most) (iE W p),mp (autN p most) (fE W p (autN p most)),(a3 W p (autS p) (autN p most) (pA W p.L (autN p most)) 14).2⟩
theorem z2s {W:WKd} (hW:W.good) (p:GPlan) (most:Int) (h0:0<=most) (h1:most<=60):Sp P F.gl [enc p,.int .i64 W.k,.int .i64 most] (.pure (enc (zqs W p most))):=by
 refine Sp.vz c.gl fun hok=>?_
 have hL:p.L.length<=9223372036854775807:=by
  simp only [okL,z10,okP] at hok
  simpa [zit,maxLen] using hok.1.2.2.2.2.1.1
 have hsr:=ze9 p.sy (show (1:Int)<=3 by omega)
 have hnr:=ze9 p.st (show (1:Int)<=most+1 by omega)
 have hN:autN p most<=64:=by unfold autN; omega
 have hNe:wthn p.st (most+1)=(autN p most:Int):=by unfold autN; omega
 have hS:1<=autS p/\autS p<=64:=by unfold autS; omega
 have e1:IntKind.i64.wrap (1+wthn p.sy 3)=autS p:=i64w (by omega) (by omega)
 have e2:IntKind.i64.wrap (most+1)=most+1:=i64w (by omega) (by omega)
 have hP:zqs W p most=⟨W.r,autS p,autN p most,mp (autN p most) (iE W p),mp (autN p most) (fE W p (autN p most)),(a3 W p (autS p) (autN p most) (pA W p.L (autN p most)) 14).2⟩:=rfl
 have hal:=zua W p (autS p) (autN p most) (pA W p.L (autN p most)) 14
 rw [hP]
 generalize autN p most=N at *
 simp [g.gl,go_sem]
 refine zaf (zj2 p.sy 3 (by omega)) ?_
 simp [go_sem,e1,e2]
 refine zaf (zj2 p.st (most+1) (by omega)) ?_
 rw [hNe]
 generalize autS p=sy at *
 simp [go_sem]
 refine z36 hW (p:=p) (sy:=sy) hN hL ((Weak.nilCell (s0:=8) (g0:=0) (i:=4) (s:=77) (sz:=8) rfl).trans ((Weak.nilCell (s0:=8) (g0:=0) (i:=5) (s:=78) (sz:=8) rfl).trans
  (zg6 [1,3,6,7,8,9] [(900003,[(19,0)]),(3,[(3,0)]),(6,[(6,0)]),(8,[(8,0)]),(1,[(77,0)]),(2,[(78,0)])] ?_ (fun σ => σ 19 0=(900003,0) /\ σ 3 0=(3,0) /\ σ 6 0=(6,0) /\ σ 8 0=(8,0) /\ σ 77 0=(1,0) /\ σ 78 0=(2,0)) ?_ ?_))) ?_
 ·simp [zf4,zpq,zeh,PINB,DEAD,zdx,go_sem]
 ·simp [sgP,zgd,zdy,St.site,look,go_sem]
 ·rintro σ ⟨s1,s2,s3,s4,s5,s6⟩
  simp [hpP,catS,sub,subO,subL,St.get,look,St.site,q1S,hpT,z7,s1,s2,s3,s4,s5,s6,go_sem,mp,pA]
 simp [q1S,hpT,z7,go_sem]
 refine z35 hW (p:=p) (sy:=sy) (N:=N) (at0:=pA W p.L N) (ini:=mp N (iE W p)) (fin:=mp N (fE W p N)) hN hS hL (z4i hW p.L N) ((Weak.nilCell (s0:=8) (g0:=0) (i:=6) (s:=77) (sz:=11) rfl).trans (Weak.toF [1,3,6,7,8,12] [900003] [((3,0),3),((6,0),6),((8,0),8),((1,0),1),((2,0),2),((77,0),5)] ?_)) fun i=>?_
 ·simp [go_sem,q3S,hpT,z7]
 generalize a3 W p sy N (pA W p.L N) 14=s at *
 obtain ⟨at_,arcs⟩:=s
 have t1:(mp N (iE W p)).take N=mp N (iE W p):=List.take_of_length_le (by rw [zbu]; omega)
 have t2:(mp N (fE W p N)).take N=mp N (fE W p N):=List.take_of_length_le (by rw [zbu]; omega)
 simp [q3S,hpT,z7,go_sem,zbu,t1,t2,WKd.r]
end Go.Ab
namespace Go.Ab
open Enc (enc)
attribute [local go_sem] zal Opd.slots
end Go.Ab
namespace Go.Ab
open Enc (enc)
instance:Enc (Int × Int):=⟨fun x=>.agg [.int .i64 x.1,.int .i64 x.2],2,by decide,fun _=>rfl⟩
@[go_sem] theorem z9s (x:Int × Int):enc x=.agg [.int .i64 x.1,.int .i64 x.2]:=rfl
@[go_sem] theorem z6h:Enc.sz (Int × Int)=2:=rfl
theorem toNat_lt {p:Int} {n:Nat} (h:0<=p/\p<n):∃ k:Nat,p=k/\k<n:=⟨p.toNat,by omega,by omega⟩
end Go.Ab
namespace Go.Ab
open Enc (enc)
end Go.Ab
namespace Go.Ab
open Enc (enc)
end Go.Ab
namespace Go.Ab
open Enc (enc)
structure Meas (r:GRing) where
 mb:Nat->GW->Prop
 lim:Nat
 mono:∀ {m n:Nat} {w:GW},mb m w->m<=n->mb n w
 zero:mb 0 r.zero
 plus:∀ {v w:GW} {n:Nat},v.chk r->w.chk r->mb n v->mb n w->mb (n+1) (r.plus v w)
 times:∀ {v w:GW} {m n:Nat},v.chk r->w.chk r->mb m v->mb n w->mb (m+n+1) (r.times v w)
 plusS:∀ {v w:GW} {n:Nat},n<=lim->v.chk r->w.chk r->mb n v->mb n w->Sp P F.pm [enc r,enc v,enc w] (.pure (enc (r.plus v w)))
 timesS:∀ {v w:GW} {n:Nat},n<=lim->v.chk r->w.chk r->mb n v->mb n w->Sp P F.pn [enc r,enc v,enc w] (.pure (enc (r.times v w)))
def vb {r:GRing} (M:Meas r) (n:Nat) (l:List GW):Prop:=∀ w∈l,w.chk r/\M.mb n w
def GTArc.fit (x:GTArc) (N:Nat):Prop:=(0<=x.f/\x.f<N)/\0<=x.t/\x.t<N
end Go.Ab
namespace Go.Ab
section
variable {r:GRing} (M:Meas r)
def fits {r:GRing} (M:Meas r) (c N:Nat) (l:List GTArc):Prop:=∀ x∈l,(x.w.chk r/\M.mb c x.w)/\x.fit N
structure GTrans.fits {r:GRing} (M:Meas r) (c:Nat) (t:GTrans):Prop where
 ring:t.ring=r
 st:0<=t.st/\t.st<=64
 arcs:Go.Ab.fits M c t.st.toNat t.arcs
 ini:vb M c t.ini/\t.ini.length=t.st.toNat
 fin:vb M c t.fin/\t.fin.length=t.st.toNat
 rok:r.ok=true
variable {M}
end
end Go.Ab
namespace Go.Ab
open Enc (enc)
end Go.Ab
namespace Go.Ab
open Enc (enc)
section
variable (t:GTrans) (wx wy:List Int)
end
def z6t (w:List Int) (m:Int):Prop:=(1<=m/\m<=32)/\w.length<=256/\∀ x∈w,1<=x/\x<=m
noncomputable instance (w:List Int) (m:Int):Decidable (z6t w m):=Classical.propDecidable _
end Go.Ab
namespace Go.Ab
open Enc (enc)
end Go.Ab
namespace Go.Ab
open Enc (enc)
end Go.Ab
namespace Go.Ab
open Enc (enc)
structure GModel where
 st:Int
 ini:List Int
 fin:List Int
 arcs:List Int
 em:Bool
instance:Enc GModel:=⟨fun x=>.agg [.int .i64 x.st,.sl (ens x.ini),.sl (ens x.fin),.sl (ens x.arcs),.bool x.em],5,by decide,fun _=>rfl⟩
@[go_sem] theorem z8h (x:GModel):enc x=.agg [.int .i64 x.st,.sl (ens x.ini),.sl (ens x.fin),.sl (ens x.arcs),.bool x.em]:=rfl
@[go_sem] theorem z5g:Enc.sz GModel=5:=rfl
end Go.Ab
namespace Go.Ab
section
variable {r:GRing}
def ckL (r:GRing) (N:Nat) (l:List GW):Prop:=(∀ w∈l,w.chk r)/\l.length=N
def z88 (r:GRing) (N:Nat) (l:List GTArc):Prop:=∀ x∈l,x.w.chk r/\x.fit N
structure swap (t u:GTrans):Prop where
 ring:u.ring=t.ring
 st:u.st=t.st
 ini:u.ini=t.ini
 fin:u.fin=t.fin
 arcs:u.arcs.Perm (t.arcs.map swT)
structure ckT (r:GRing) (t:GTrans):Prop where
 ring:t.ring=r
 rok:r.ok=true
 fin:ckL r t.st.toNat t.fin
 arcs:z88 r t.st.toNat t.arcs
end
section
variable {α : Type} {key : α -> List Int} {wt : α -> GW} {r:GRing}
end
end Go.Ab
namespace Go.Ab
open Enc (enc)
attribute [local go_sem] zal Opd.slots
inductive GW.lt:GW->Prop
 | mk {q:GRat} {c:Int} {i:Bool} {s:UInt64} {p:List GMono} {ps:List GW}:q.sm 3->p.length<=8->ps.length<=4->psm p 2->(∀ w∈ps,GW.lt w)->GW.lt (.mk q c i s p ps)
noncomputable instance (w:GW):Decidable w.lt:=Classical.propDecidable _
end Go.Ab
namespace Go.Ab
open Enc (enc)
attribute [local go_sem] zal Opd.slots
structure GAuto.lt (a:GAuto):Prop where
 ring:a.ring.parts.length<=6
 ini:a.ini.length<=6/\∀ w∈a.ini,w.lt
 fin:a.fin.length<=6/\∀ w∈a.fin,w.lt
 al:a.arcs.length<=16
 arcs:∀ x∈a.arcs,x.w.lt
noncomputable instance (a:GAuto):Decidable a.lt:=Classical.propDecidable _
structure GTrans.lt (a:GTrans):Prop where
 ring:a.ring.parts.length<=6
 ini:a.ini.length<=5/\∀ w∈a.ini,w.lt
 fin:a.fin.length<=5/\∀ w∈a.fin,w.lt
 al:a.arcs.length<=12
 arcs:∀ x∈a.arcs,x.w.lt
noncomputable instance (a:GTrans):Decidable a.lt:=Classical.propDecidable _
end Go.Ab
namespace Go.Ab
open Enc (enc)
attribute [local go_sem] zal Opd.slots
def aw1:GW:=.mk (rto 1) 0 false 0 [] []
def ar1:GRing:=⟨1,[]⟩
def at0:GTrans:=⟨ar1,1,3,1,[aw1],[aw1],[⟨0,1,2,0,aw1⟩,⟨0,1,3,0,aw1⟩]⟩
end Go.Ab
namespace Go.Ab
open Enc (enc)
attribute [local go_sem] zal Opd.slots
structure GAuto.fit (a:GAuto):Prop where
 sm:a.sm 1048576
 li:a.ini.length<=1000000
 lf:a.fin.length<=1000000
 la:a.arcs.length<=1000000
structure GTrans.fit (a:GTrans):Prop where
 sm:a.sm 1048576
 li:a.ini.length<=1000000
 lf:a.fin.length<=1000000
 la:a.arcs.length<=1000000
end Go.Ab
namespace Go.Ab
open Enc (enc)
structure GW.tiny (r:GRing) (w:GW):Prop where
 chk:w.chk r
 mb:w.mb 1
 pl:w.poly.length<=3
 ps:∀ x∈w.parts,x.poly.length<=3
structure GTrans.tin (t:GTrans):Prop where
 ok:t.ok
 st:t.st<=3
 al:t.arcs.length<=7
 ini:∀ w∈t.ini,w.tiny t.ring
 fin:∀ w∈t.fin,w.tiny t.ring
 arcs:∀ x∈t.arcs,x.w.tiny t.ring
end Go.Ab
namespace Go.Ab
open Enc (enc)
end Go.Ab
namespace Go.Ab
open Enc (enc)
def GArc.fit (x:GArc) (N:Nat):Prop:=(0<=x.f/\x.f<N)/\0<=x.t/\x.t<N
structure GAuto.fits {r:GRing} (M:Meas r) (z:Nat) (a:GAuto):Prop where
 ring:a.ring=r
 st:0<=a.st/\a.st<=64
 arcs:∀ x∈a.arcs,(x.w.chk r/\M.mb z x.w)/\x.fit a.st.toNat
 ini:Go.Ab.vb M z a.ini/\a.ini.length=a.st.toNat
 fin:Go.Ab.vb M z a.fin/\a.fin.length=a.st.toNat
 rok:r.ok=true
end Go.Ab
namespace Go.Ab
open Enc (enc)
end Go.Ab
namespace Go.Ab
open Enc (enc)
def tw (w:GW) (B:Int):Prop:=∃ c i,w=.mk gr0 c i 0 [] []/\0<=c/\c<=B/\(i=true->c=0)
theorem zul:(⟨2,[]⟩:GRing).ok=true:=by simp [GRing.ok]
theorem zj6 {w:GW} {B:Int} (h:tw w B) (hB:B<=1099511627776):w.chk ⟨2,[]⟩:=by
 obtain ⟨c,i,rfl,h2,h3,h4⟩:=h
 refine ⟨zul,fun _=>?_,fun h=>by simp at h⟩
 exact ⟨rfl,fun _ _=>rfl,fun h=>absurd rfl h,fun _=>rfl,fun _=>rfl,fun h=>by simp at h,fun _=>⟨h2,by show c<=_; omega,h4⟩,fun h=>by simp at h,fun h=>by simp at h⟩
theorem zue {w:GW} {B:Int} (h:tw w B):w.sm 3:=by
 obtain ⟨c,i,rfl,h2,h3,h4⟩:=h
 exact .mk (zga 3) (by intro m hm; simp at hm) (by simp) (by simp) (by simp)
theorem zvv (L:List Int) (a:Nat):tw (wtT L a) 5:=by
 unfold wtT
 split
 ·exact ⟨0,true,rfl,by omega,by omega,fun _=>rfl⟩
 ·have:=zo7 L (tn L a) (show (1:Int)<=6 by omega)
  exact ⟨_,false,rfl,by omega,by omega,fun h=>by cases h⟩
theorem z6s:tw wkT.r.zero 5:=⟨0,true,by simp [WKd.r,wkT,GRing.zero,zul],by omega,by omega,fun _=>rfl⟩
theorem z47 (p:GPlan) (s:Nat):tw (iE wkT p s) 5:=by
 unfold iE; split
 ·exact z6s
 ·exact zvv _ _
theorem z5c (p:GPlan) (N s:Nat):tw (fE wkT p N s) 5:=by
 unfold fE; split
 ·exact z6s
 ·exact zvv _ _
structure arcOk (N:Nat) (sy:Int) (x:GArc):Prop where
 f:0<=x.f/\x.f<(N:Int)
 t:0<=x.t/\x.t<(N:Int)
 l:1<=x.l/\x.l<=sy
 w:tw x.w 5
theorem z5z {L:List Int} {a N:Nat} {sy:Int} (hN:0<N) (hs:1<=sy):arcOk N sy (arcP wkT L a N sy):=by
 have h1:=zo7 L a (show (1:Int)<=N by omega)
 have h2:=zo7 L (tn L a) hs
 have h3:=zo7 L (tn L (tn L a)) (show (1:Int)<=N by omega)
 refine ⟨h1,h3,?_,zvv _ _⟩
 show 1<=1+tk L (tn L a) sy/\1+tk L (tn L a) sy<=sy
 omega
theorem z7b {N:Nat} {sy:Int} {x:GArc} (fw:Bool) (h:arcOk N sy x):arcOk N sy (swA fw x):=by
 unfold swA; split
 ·exact ⟨h.t,h.f,h.l,h.w⟩
 ·exact h
def sgl (l:List GArc):Prop:=l.Pairwise fun x y=>¬ (x.f=y.f/\x.l=y.l)
theorem z1j {N:Nat} {sy:Int} {p:GPlan} (hp:p.sg=true) {arcs:List GArc} {x:GArc} (hx:arcOk N sy x) (h:∀ y∈arcs,arcOk N sy y) (hs:sgl arcs):(∀ y∈zoa p arcs x,arcOk N sy y)/\sgl (zoa p arcs x):=by
 unfold zoa
 split
 ·exact ⟨h,hs⟩
 ·split
  ·exact ⟨h,hs⟩
  ·rename_i h1 h2
   have h3:thB arcs (swA p.fw x) arcs.length=false:=by
    cases hb:thB arcs (swA p.fw x) arcs.length
    ·rfl
    ·exact absurd ⟨hp,hb⟩ h2
   unfold thB at h3
   rw [List.take_length,List.any_eq_false] at h3
   refine ⟨fun y hy=>?_,?_⟩
   ·rcases List.mem_append.1 hy with hy|hy
    ·exact h y hy
    ·rw [List.mem_singleton] at hy; subst hy; exact z7b _ hx
   ·refine List.pairwise_append.2 ⟨hs,List.pairwise_singleton _ _,fun y hy z hz=>?_⟩
    rw [List.mem_singleton] at hz; subst hz
    have:=h3 y hy
    simpa using this
theorem z57 {p:GPlan} (hp:p.sg=true) {N:Nat} {sy:Int} (hs:1<=sy) (at0:Nat):∀ i,(∀ y∈(a3 wkT p sy N at0 i).2,arcOk N sy y)/\sgl (a3 wkT p sy N at0 i).2
 | 0=>⟨fun y hy=>(by cases hy),List.Pairwise.nil⟩
 | i+1=>by
  have ih:=z57 hp (N:=N) hs at0 i
  simp only [a3,zo8]
  split
  ·rename_i h; exact z1j hp (z5z h.2 hs) ih.1 ih.2
  ·exact ih
theorem zmp {α : Type} {n:Nat} {f:Nat -> α} {x : α} (h:x∈mp n f):∃ i,i<n/\x=f i:=by
 obtain ⟨i,hi,e⟩:=List.mem_map.1 h
 exact ⟨i,List.mem_range.1 hi,e.symm⟩
theorem z3i {a:GAuto} (ok:a.ok) (hs:sgl a.arcs):zr6 a.nf.arcs:=by
 have hc:∀ x∈a.arcs,x.w.chk a.ring:=fun x hx=>(ok.arcs x hx).2.2.2.2.2.2
 have h1:=(zhm ok.ring hc).1
 have h2:∀ x∈a.nf.arcs,∃ y∈a.arcs,y.key=x.key:=fun x hx=>zqw (key:=GArc.key) (wt:=GArc.w) (up:=upA a.ring) ok.ring (fun _ _=>rfl) (fun _ _=>rfl) hc hx
 rw [<- znf] at h1
 change SSrt GArc.key a.nf.arcs at h1
 intro k ⟨hk,h0,e1,e2⟩
 have hlt:=List.pairwise_iff_getElem.1 h1 (k - 1) k (by omega) hk (by omega)
 obtain ⟨y,hy,ey⟩:=h2 _ (List.getElem_mem hk)
 obtain ⟨z,hz,ez⟩:=h2 _ (List.getElem_mem (show k - 1<a.nf.arcs.length by omega))
 have hyz:y≠z:=fun e=>by
  subst e
  rw [<- ey,<- ez] at hlt
  exact List.lt_irrefl _ hlt
 simp only [GArc.key,List.cons.injEq,and_true] at ey ez
 have hne:¬ (y.f=z.f/\y.l=z.l):=by
  obtain ⟨i,hi,rfl⟩:=List.mem_iff_getElem.1 hy
  obtain ⟨j,hj,rfl⟩:=List.mem_iff_getElem.1 hz
  rcases Nat.lt_trichotomy i j with h|h|h
  ·exact List.pairwise_iff_getElem.1 hs i j hi hj h
  ·subst h; exact absurd rfl hyz
  ·have:=List.pairwise_iff_getElem.1 hs j i hj hi h
   exact fun ⟨q1,q2⟩=>this ⟨q1.symm,q2.symm⟩
 exact hne ⟨by rw [ey.1,ez.1,e1],by rw [ey.2.1,ez.2.1,e2]⟩
theorem zjx {a:GAuto} (h:∀ i,(hi:i<a.ini.length)->0<i->a.ini[i]=a.ring.zero):∀ k,begC a k<=1
 | 0=>by simp [begC]
 | k+1=>by
  by_cases hk:k<a.ini.length
  ·rw [zlq a hk]
   cases k with
   | zero=>simp [begC]; split<;>omega
   | succ k =>
    rw [if_neg (by rw [h (k+1) hk (by omega)]; simp)]
    exact zjx h (k+1)
  ·have:begC a (k+1)=begC a k:=by unfold begC; rw [List.take_of_length_le (by omega),List.take_of_length_le (by omega)]
   rw [this]; exact zjx h k
theorem zxy {p:GPlan} (hp:p.sg=true):DetA (zqs wkT p 4) 3:=by
 have hsr:=ze9 p.sy (show (1:Int)<=3 by omega)
 have hnr:=ze9 p.st (show (1:Int)<=4+1 by omega)
 have hN:autN p 4<=4:=by unfold autN; omega
 have hS:1<=autS p/\autS p<=3:=by unfold autS; omega
 have hP:zqs wkT p 4=⟨⟨2,[]⟩,autS p,autN p 4,mp (autN p 4) (iE wkT p),mp (autN p 4) (fE wkT p (autN p 4)),(a3 wkT p (autS p) (autN p 4) (pA wkT p.L (autN p 4)) 14).2⟩:=rfl
 obtain ⟨A1,A2⟩:=z57 hp (N:=autN p 4) hS.1 (pA wkT p.L (autN p 4)) 14
 have hal:=zua wkT p (autS p) (autN p 4) (pA wkT p.L (autN p 4)) 14
 generalize (a3 wkT p (autS p) (autN p 4) (pA wkT p.L (autN p 4)) 14).2=arcs at *
 generalize autN p 4=N at *
 generalize autS p=sy at *
 rw [hP]
 have ok:GAuto.ok ⟨⟨2,[]⟩,sy,N,mp N (iE wkT p),mp N (fE wkT p N),arcs⟩:=by
  refine ⟨zul,hS.1,by show sy<=32; omega,by show (0:Int)<=N; omega,by show (N:Int)<=64; omega,by simp [zbu],by simp [zbu],by show arcs.length<=2048; omega,fun x hx=>?_,fun w hw=>?_,fun w hw=>?_⟩
  ·have h:=A1 x hx
   exact ⟨h.f.1,h.f.2,h.t.1,h.t.2,by have:=h.l.1; omega,h.l.2,zj6 h.w (by omega)⟩
  ·obtain ⟨i,_,rfl⟩:=zmp hw; exact zj6 (z47 p i) (by omega)
  ·obtain ⟨i,_,rfl⟩:=zmp hw; exact zj6 (z5c p N i) (by omega)
 refine ⟨by omega,by omega,⟨fun w hw=>?_,fun w hw=>?_,fun x hx=>zue (A1 x hx).w⟩,by show arcs.length<=19; omega,ok,fun x hx=>?_,z3i ok A2,zjx (fun i hi h0=>?_) _⟩
 ·obtain ⟨i,_,rfl⟩:=zmp hw; exact zue (z47 p i)
 ·obtain ⟨i,_,rfl⟩:=zmp hw; exact zue (z5c p N i)
 ·obtain ⟨y,hy,ey⟩:=zqw (key:=GArc.key) (wt:=GArc.w) (up:=upA ⟨2,[]⟩) zul (fun _ _=>rfl) (fun _ _=>rfl) (fun x hx=>(ok.arcs x hx).2.2.2.2.2.2) hx
  have h:=(A1 y hy).l
  simp only [GArc.key,List.cons.injEq,and_true] at ey
  omega
 ·have hi2:i<(mp N (iE wkT p)).length:=hi
  show (mp N (iE wkT p))[i]'hi2=GRing.zero ⟨2,[]⟩
  rw [ze0 _ hi2]
  unfold iE; rw [if_pos ⟨.inr hp,h0⟩]; rfl
end Go.Ab
namespace Go.Ab
open Enc (enc)
attribute [local go_sem] zal Opd.slots
structure MdlA (a:GAuto):Prop where
 det:DetA a 3
 ring:a.ring=⟨2,[]⟩
 sy:1<=a.sy/\a.sy<=3
 st:0<=a.st/\a.st<=4
 arcs:∀ x∈a.arcs,tw x.w 5
 ini:∀ w∈a.ini,tw w 5
 fin:∀ w∈a.fin,tw w 5
theorem zxx {p:GPlan} (hp:p.sg=true):MdlA (zqs wkT p 4):=by
 have hsr:=ze9 p.sy (show (1:Int)<=3 by omega)
 have hnr:=ze9 p.st (show (1:Int)<=4+1 by omega)
 have hN:autN p 4<=4:=by unfold autN; omega
 have hS:1<=autS p/\autS p<=3:=by unfold autS; omega
 obtain ⟨A1,A2⟩:=z57 hp (N:=autN p 4) hS.1 (pA wkT p.L (autN p 4)) 14
 refine ⟨zxy hp,rfl,hS,⟨by show (0:Int)<=(autN p 4:Int); omega,by show ((autN p 4:Nat):Int)<=4; omega⟩,fun x hx=>(A1 x hx).w,fun w hw=>?_,fun w hw=>?_⟩
 ·obtain ⟨i,_,rfl⟩:=zmp hw; exact z47 p i
 ·obtain ⟨i,_,rfl⟩:=zmp hw; exact z5c p _ i
theorem zux (p:GPlan):Sp P F.gj [enc p] (.pure (enc (zqs wkT { p with sg:=true } 4))):=by
 have hs:=z2s zz4 { p with sg:=true } 4 (by omega) (by omega)
 refine Sp.vz c.gj fun _=>?_
 simp [g.gj,go_sem]
 refine zaa hs (by simp [go_sem,wkT]) ?_
 simp [go_sem]
theorem zwt (a b:List Int) (ha:a.length<=1000000):Sp P F.dw [.sl (ens a),.sl (ens b)] (.pure (.bool (decide (a=b)))):=by
 refine Sp.vz c.dw fun _=>?_
 by_cases hl:a.length=b.length
 ·simp [g.dw,go_sem,hl]
  refine zai (S:=fun k:Nat=>mkSt [(0,.p (.sl (ens a))),(1,.p (.sl (ens b))),(5,.p (.int .i64 k))] []) (I:=fun k=>k<=a.length/\a.take k=b.take k) (m:=fun k=>a.length - k) 0
   (Weak.to [0,1,5] [] (by simp [go_sem,mkSt])) ⟨by omega,by simp⟩ ?_
  rintro k ⟨hk,he⟩ R hn hr hx
  have e1:=i64s k (by omega)
  by_cases hlt:k<a.length
  ·have hlt2:k<b.length:=by omega
   simp [g.l8,mkSt,go_sem,hlt,hl ▸ hlt]
   refine zae hlt ?_
   refine zae hlt2 ?_
   by_cases hc:a[k]=b[k]
   ·simp [go_sem,hc,e1]
    refine hn (k+1) _ (Weak.to [0,1,5] [] (by simp [go_sem,mkSt])) ⟨by omega,?_⟩ (by omega)
    rw [List.take_succ_eq_append_getElem hlt,List.take_succ_eq_append_getElem hlt2,he,hc]
   ·have hne:¬ a=b:=fun h=>by subst h; exact hc rfl
    simp [go_sem,hc]
    refine hr _ ?_
    simp [go_sem,hne]
  ·have:k=a.length:=by omega
   subst this
   have hab:a=b:=by rw [List.take_length,hl,List.take_length] at he; exact he
   simp [g.l8,mkSt,go_sem,hl]
   refine hx _ _ ?_
   simp [go_sem,hab]
 ·have hne:¬ a=b:=fun h=>hl (by rw [h])
  have hl2:¬ (a.length:Int)=(b.length:Int):=by omega
  simp [g.dw,go_sem,hl,hne]
  intro h
  exact absurd h hl2
end Go.Ab
