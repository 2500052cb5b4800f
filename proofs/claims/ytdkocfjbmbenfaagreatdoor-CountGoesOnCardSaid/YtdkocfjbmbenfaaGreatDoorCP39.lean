/-
Proofs for the law CountGoesOn, part 39. Conditions: none.
-/
import Derived.Test.YtdkocfjbmbenfaaGreatDoorCP35
import Derived.Test.YtdkocfjbmbenfaaGreatDoorCP38
import Derived.Test.YtdkocfjbmbenfaaGreatDoorCP28
set_option maxRecDepth 100000
set_option maxHeartbeats 4000000
set_option linter.all false
namespace Go.Ab
open Enc (enc)
theorem zy6 (k n:Int) (h:0<n):(if k.tmod n<0 then k.tmod n+n else k.tmod n)=k % n:=by
 have h1:=Int.tmod_eq_emod (a:=k) (b:=n)
 have h2:=Int.emod_nonneg k (show n≠0 by omega)
 have h3:=Int.emod_lt_of_pos k h
 rw [h1]
 have h4:(n.natAbs:Int)=n:=by omega
 split<;>split<;>omega
def nx (label:Int) (w:List Int) (a:Nat):Int:=if label=0 then a else if w[a]?=some label then a+1 else -1
theorem zyw (w:List Int) (m:Int) (hl:w.length<=1000000000):Sp P F.ji [.sl (ens w),.int .i64 m] (.pure (.bool (decide ((1<=m/\m<=32)/\w.length<=256/\∀ x∈w,1<=x/\x<=m)))):=by
 refine Sp.vz c.ji fun _=>?_
 simp [g.ji,go_sem]
 refine zaa (zko m) rfl ?_
 by_cases hm:1<=m/\m<=32
 rotate_left
 ·simp [go_sem,hm]
  done
 by_cases h256:w.length<=256
 rotate_left
 ·simp [go_sem,hm,h256]
  exact fun h=>absurd h (by omega)
 have h256':(w.length:Int)<=256:=by omega
 simp [go_sem,hm,h256,h256']
 refine ⟨fun h=>absurd h (by omega),?_⟩
 refine zai (S:=fun k:Nat=>mkSt [(0,.p (.sl (ens w))),(1,.p (.int .i64 m)),(5,.p (.int .i64 k))] []) (I:=fun k=>k<=w.length/\∀ i,(hi:i<w.length)->i<k->1<=w[i]/\w[i]<=m) (m:=fun k=>w.length - k) 0
  (Weak.to [0,1,5] [] (by simp [go_sem])) ⟨by omega,fun i _ h=>by omega⟩ ?_
 rintro k ⟨h6,h7⟩ R hn' hr hx
 have e1:=i64s k (by omega)
 simp [g.pq,mkSt,go_sem]
 refine ⟨fun hk=>?_,fun hk=>hx _ _ ?_⟩
 ·refine zae hk ?_
  try simp [go_sem]
  have hmem:=List.getElem_mem hk
  refine ⟨fun h1=>hr _ ?_,fun h1=>zae hk ⟨fun h2=>hr _ ?_,fun h2=>?_⟩⟩
  ·simp [go_sem]
   exact ⟨_,hmem,fun _=>by omega⟩
  ·simp [go_sem]
   exact ⟨_,hmem,fun _=>by omega⟩
  ·rw [e1]
   refine hn' (k+1) _ (Weak.to [0,1,5] [] (by simp [mkSt,go_sem])) ⟨by omega,fun i hi h0=>?_⟩ (by omega)
   by_cases hik:i<k
   ·exact h7 i hi hik
   ·have:i=k:=by omega
    subst this; exact ⟨h1,h2⟩
 ·have:∀ x∈w,1<=x/\x<=m:=fun x hx=>by
   obtain ⟨i,hi,rfl⟩:=List.mem_iff_getElem.1 hx
   exact h7 i hi (by omega)
  simp [go_sem]
  exact this
end Go.Ab
namespace Go.Ab
open Enc (enc)
attribute [local go_sem] zam Opd.slots
def wthn (v m:Int):Int:=if m<1 then 0 else v % m
theorem zcs (v:Int) {m:Int} (h:1<=m):0<=wthn v m/\wthn v m<m:=by
 unfold wthn; rw [if_neg (by omega)]
 exact ⟨Int.emod_nonneg v (by omega),Int.emod_lt_of_pos v (by omega)⟩
theorem zee (v m:Int) (hm:m<=1000000):Sp P F.ar [.int .i64 v,.int .i64 m] (.pure (.int .i64 (wthn v m))):=by
 refine Sp.vz c.ar fun _=>?_
 unfold wthn
 by_cases h:m<1
 ·simp [g.ar,go_sem,h]
 ·have h1:=zy6 v m (by omega)
  have h2:=Int.emod_nonneg v (show m≠0 by omega)
  have h3:=Int.emod_lt_of_pos v (show 0<m by omega)
  simp [g.ar,go_sem,h]
  refine ⟨by omega,fun h4=>?_,fun h4=>?_⟩
  ·rw [if_pos h4] at h1
   rw [h1,i64w (by omega) (by omega)]
  ·rw [if_neg (by omega)] at h1
   exact h1
def tk (L:List Int) (at_:Nat) (m:Int):Int:=if at_<L.length then wthn (L.getD at_ 0) m else 0
def tn (L:List Int) (at_:Nat):Nat:=if at_<L.length then at_+1 else at_
theorem zq5 (L:List Int) (at_:Nat) {m:Int} (h:1<=m):0<=tk L at_ m/\tk L at_ m<m:=by
 unfold tk; split
 ·exact zcs _ h
 ·omega
theorem zjf {L:List Int} {at_:Nat} (h:at_<=L.length):tn L at_<=L.length:=by unfold tn; split<;>omega
def hpT (L:List Int) (at_:Nat):List Site:=[(900003,[some ⟨2,[.p (.agg [.sl (ens L),.int .i64 at_])]⟩])]
theorem zq4 (L:List Int) (at_:Nat) (m:Int) (hm:m<=1000000) (hat:at_<=L.length) (hL:L.length<=9223372036854775807) :
  HSp P F.aj [.ptr 900003 0 0 0,.p (.int .i64 m)] (hpT L at_) (.p (.int .i64 (tk L at_ m))) (hpT L (tn L at_)):=by
 refine HSp.of_mr c.aj (by simp) (by simp [hpT,PINB]) (by simp [hpT]) ?_ fun A0 hA0=>MR.of_vm ?_
 ·simp [hpT,zb7,hpOk,zge,za5]
 simp [g.aj,go_sem,zbr,hpT]
 unfold tk tn
 refine ⟨fun h=>?_,fun h=>?_⟩
 ·have h1:¬ at_<L.length:=by omega
  rw [if_neg h1,if_neg h1]
  refine ⟨.inl rfl,_,Weak.refl _,_,rfl,?_,?_⟩
  ·simp [go_sem]
  ·simp [zbf,St.site,look]
 ·have h1:at_<L.length:=by omega
  have e1:=i64s at_ (by omega)
  have e2:IntKind.i64.wrap (((at_+1:Nat):Int) - 1)=(at_:Int):=by rw [i64w (by omega) (by omega)]; omega
  rw [if_pos h1,if_pos h1]
  simp [go_sem,e1]
  have e3:IntKind.i64.wrap (at_:Int)=(at_:Int):=i64w (by omega) (by omega)
  rw [e3,Int.toNat_natCast]
  refine zae h1 ⟨by omega,?_⟩
  have hg:L.getD at_ 0=L[at_]:=by rw [List.getD_eq_getElem?_getD,List.getElem?_eq_getElem h1]; rfl
  refine zab (zee L[at_] m hm) ?_
  simp [go_sem]
  refine ⟨.inl rfl,_,Weak.refl _,_,rfl,?_,?_⟩
  ·simp [go_sem,h1]
  ·simp [zbf,St.site,look]
theorem zqo {e:Nat} {L:List Int} {at_:Nat} {m:Int} {st:St} {K:PCall->AV->St->Prop} (hm:m<=1000000) (hat:at_<=L.length) (hL:L.length<=9223372036854775807) (hk:zbf st (hpT L at_) (hpT L at_))
  (k:∀ c,K c (.p (.int .i64 (tk L at_ m))) ⟨st.sl,hpT L (tn L at_)++st.hp⟩):zg8 P st e F.aj [.ptr 900003 0 0 0,.p (.int .i64 m)] K:=by
 refine ze7 (zq4 L at_ m hm hat hL) (by simp [zei]) hk rfl ?_ (k _)
 simp [hpT,zb7,hpOk,zge,za5,zgd]
def wtT (L:List Int) (at_:Nat):GW:=if tk L at_ 8=0 then .mk gr0 0 true 0 [] [] else .mk gr0 (tk L (tn L at_) 6) false 0 [] []
def wnT (L:List Int) (at_:Nat):Nat:=if tk L at_ 8=0 then tn L at_ else tn L (tn L at_)
theorem ybm {L:List Int} {at_:Nat} (h:at_<=L.length):wnT L at_<=L.length:=by
 unfold wnT; split
 ·exact zjf h
 ·exact zjf (zjf h)
theorem zs7 (L:List Int) (at_:Nat) (hat:at_<=L.length) (hL:L.length<=9223372036854775807) :
  HSp P F.de [.p (.int .i64 2),.ptr 900003 0 0 0] (hpT L at_) (.p (enc (wtT L at_))) (hpT L (wnT L at_)):=by
 refine HSp.of_mr c.de (by simp) (by simp [hpT,PINB]) (by simp [hpT]) ?_ fun A0 hA0=>MR.of_vm ?_
 ·simp [hpT,zb7,hpOk,zge,za5]
 have h2:=zjf hat
 unfold wtT wnT
 simp [g.de,go_sem,zbr,hpT]
 refine zqo (by omega) hat hL (by simp [zbf,St.site,look,hpT]) fun _=>?_
 simp [go_sem,hpT]
 refine ⟨fun h=>?_,fun h=>?_⟩
 ·simp only [h,if_true]
  refine ⟨.inl rfl,_,Weak.freezeTo (s:=4) (g:=0) (n:=2) [enc (GW.mk gr0 0 true 0 [] [])] [] rfl (by simp [go_sem,gr0]) (by simp [go_sem]) (by simp),_,rfl,?_,?_⟩
  ·simp [go_sem,gr0]
  ·simp [zbf,St.site,look,killAll,St.setObj]
 ·simp only [h,if_false]
  refine zqo (by omega) h2 hL (by simp [zbf,St.site,look,hpT]) fun _=>?_
  simp [go_sem,hpT]
  refine ⟨.inl rfl,_,Weak.freezeTo (s:=4) (g:=0) (n:=2) [enc (GW.mk gr0 (tk L (tn L at_) 6) false 0 [] [])] [] rfl (by simp [go_sem,gr0]) (by simp [go_sem]) (by simp),_,rfl,?_,?_⟩
  ·simp [go_sem,gr0]
  ·simp [zbf,St.site,look,killAll,St.setObj]
end Go.Ab
namespace Go.Ab
open Enc (enc)
attribute [local go_sem] zam Opd.slots
structure GPlan where
 st:Int
 sy:Int
 fw:Bool
 sg:Bool
 L:List Int
instance:Enc GPlan:=⟨fun x=>.agg [.int .i64 x.st,.int .i64 x.sy,.bool x.fw,.bool x.sg,.sl (ens x.L)],5,by decide,fun _=>rfl⟩
@[go_sem] theorem z6h (x:GPlan):enc x=.agg [.int .i64 x.st,.int .i64 x.sy,.bool x.fw,.bool x.sg,.sl (ens x.L)]:=rfl
@[go_sem] theorem ya9:Enc.sz GPlan=5:=rfl
structure WKd where
 k:Int
 wt:List Int->Nat->GW
 wn:List Int->Nat->Nat
def WKd.r (W:WKd):GRing:=⟨W.k,[]⟩
structure WKd.good (W:WKd):Prop where
 le:∀ L at_,at_<=L.length->W.wn L at_<=L.length
 sp:∀ L at_,at_<=L.length->L.length<=9223372036854775807->HSp P F.de [.p (.int .i64 W.k),.ptr 900003 0 0 0] (hpT L at_) (.p (enc (W.wt L at_))) (hpT L (W.wn L at_))
def wkT:WKd:=⟨2,wtT,wnT⟩
theorem z3z:wkT.good:=⟨fun _ _ h=>ybm h,fun L at_ h hL=>zs7 L at_ h hL⟩
def pA (W:WKd) (L:List Int):Nat->Nat
 | 0=>0
 | s+1=>tn L (tn L (W.wn L (W.wn L (pA W L s))))
theorem z9k {W:WKd} (hW:W.good) (L:List Int):∀ s,pA W L s<=L.length
 | 0=>Nat.zero_le _
 | s+1=>zjf (zjf (hW.le _ _ (hW.le _ _ (z9k hW L s))))
def iE (W:WKd) (p:GPlan) (s:Nat):GW:=if (tk p.L (W.wn p.L (W.wn p.L (pA W p.L s))) 2=0\/p.sg=true)/\0<s then W.r.zero else W.wt p.L (pA W p.L s)
def fE (W:WKd) (p:GPlan) (N s:Nat):GW:=if tk p.L (tn p.L (W.wn p.L (W.wn p.L (pA W p.L s)))) 2=0/\s+1<N then W.r.zero else W.wt p.L (W.wn p.L (pA W p.L s))
def z7:AV:=.agg [.p (.int .i64 0),.nil,.p (.int .i64 0),.p (.int .i64 0),.nil,.nil,.nil]
def q1S (W:WKd) (p:GPlan) (sy:Int) (N k:Nat):St :=
 ⟨[(1,.p (.int .i64 W.k)),(3,.ptr 3 0 0 0),(6,.ptr 6 0 0 0),(7,.ptr 900003 0 0 0),(8,.ptr 8 0 0 0),(9,.p (.int .i64 k))],
  hpT p.L (pA W p.L k)++[(3,[some ⟨5,[.p (enc p)]⟩]),(6,[some ⟨7,[z7]⟩]),(8,[some ⟨7,[.agg [.p (.int .i64 W.k),.nil,.p (.int .i64 sy),.p (.int .i64 N),.own 1 0 0 k,.own 2 0 0 k,.nil]]⟩]),(1,[some ⟨8,avs (mp k (iE W p))⟩]),(2,[some ⟨8,avs (mp k (fE W p N))⟩]),(DEAD,[none])]⟩
theorem z8z {W:WKd} (hW:W.good) {p:GPlan} {sy:Int} {N:Nat} (hN:N<=64) (hL:p.L.length<=9223372036854775807) {Q:Exit->St->Prop} {ks:List Kt} {st:St} (hw:Weak st (q1S W p sy N 0)) (hx:zem P 185 Q (zbm 0 ks) 0 (q1S W p sy N N)):vL P 185 Q g.oh ks st:=by
 refine zai (S:=fun k:Nat=>q1S W p sy N k) (I:=fun k=>k<=N) (m:=fun k=>N - k) 0 hw (by omega) ?_
 rintro k hk R hn' hr hx'
 have e1:=i64s k (by omega)
 have e2:IntKind.i64.wrap ((N:Int) - 1)=(N:Int) - 1:=i64w (by omega) (by omega)
 have a0:=z9k hW p.L k
 have a1:=hW.le _ _ a0
 have a2:=hW.le _ _ a1
 have a3:=zjf a2
 simp [g.oh,q1S,hpT,z7,go_sem]
 refine ⟨fun hlt=>?_,fun hge=>?_⟩
 ·have hw1:=hW.sp p.L (pA W p.L k) a0 hL
  have hw2:=hW.sp p.L (W.wn p.L (pA W p.L k)) a1 hL
  have hi:mp (k+1) (iE W p)=mp k (iE W p)++[iE W p k]:=zt3 k _
  have hf:mp (k+1) (fE W p N)=mp k (fE W p N)++[fE W p N k]:=zt3 k _
  have hik:iE W p k=if (tk p.L (W.wn p.L (W.wn p.L (pA W p.L k))) 2=0\/p.sg=true)/\0<k then W.r.zero else W.wt p.L (pA W p.L k):=rfl
  have hfk:fE W p N k=if tk p.L (tn p.L (W.wn p.L (W.wn p.L (pA W p.L k)))) 2=0/\k+1<N then W.r.zero else W.wt p.L (W.wn p.L (pA W p.L k)):=rfl
  have hpk:pA W p.L (k+1)=tn p.L (tn p.L (W.wn p.L (W.wn p.L (pA W p.L k)))):=rfl
  refine ze7 hw1 (by simp [zei]) (by simp [zbf,St.site,look,hpT]) rfl (by simp [hpT,zb7,hpOk,zge,za5,zgd]) ?_
  simp [go_sem,zd1,hpT]
  refine ze7 hw2 (by simp [zei]) (by simp [zbf,St.site,look,hpT]) rfl (by simp [hpT,zb7,hpOk,zge,za5,zgd]) ?_
  simp [go_sem,zd1,hpT]
  refine zqo (by omega) a2 hL (by simp [zbf,St.site,look,hpT]) fun _=>?_
  generalize pA W p.L k=at0 at *
  generalize W.wt p.L at0=x at *
  generalize W.wt p.L (W.wn p.L at0)=y at *
  generalize W.wn p.L (W.wn p.L at0)=at2 at *
  have hz:[AV.p (.int .i64 W.k),AV.nil]=[.p (.int .i64 W.k),.nil]:=rfl
  have hzero:=zha W.r
  generalize hie:iE W p k=xe at *
  generalize hfe:fE W p N k=ye at *
  by_cases c0:tk p.L at2 2=0
  all_goals by_cases ck:0<k
  all_goals cases hsg:p.sg
  all_goals simp [c0,ck,hsg] at hik
  all_goals simp [go_sem,hpT,c0,ck,hsg]
  all_goals first|(refine zaa hzero (by simp [go_sem,WKd.r]) ?_; simp [go_sem])|skip
  all_goals rw [<- hik]
  all_goals refine zqo (by omega) a3 hL (by simp [zbf,St.site,look,hpT]) fun _=>?_
  all_goals by_cases c3:tk p.L (tn p.L at2) 2=0
  all_goals by_cases c4:k+1<N
  all_goals simp [c3,c4] at hfk
  all_goals have c5:((k:Int)<(N:Int) - 1)=(k+1<N):=by rw [eq_iff_iff]; omega
  all_goals simp [go_sem,hpT,c3,e2,c5,c4]
  all_goals first|(refine zaa hzero (by simp [go_sem,WKd.r]) ?_; simp [go_sem])|skip
  all_goals rw [<- hfk]
  all_goals simp [go_sem,zdm,e1]
  all_goals refine ⟨by omega,hn' (k+1) _ (Weak.toF [1,3,6,7,8,9] [900003] [((3,0),3),((6,0),6),((8,0),8),((79,0),1),((84,0),2)] ?_) (by omega) (by omega)⟩
  all_goals simp [go_sem,q1S,hpT,z7,hi,hf,hpk,hsg]
 ·have:k=N:=by omega
  subst this
  exact hx' _ _ (by simpa [q1S,hpT,z7,go_sem] using hx)
end Go.Ab
namespace Go.Ab
open Enc (enc)
attribute [local go_sem] zam Opd.slots
def thB (arcs:List GArc) (x:GArc) (k:Nat):Bool:=(arcs.take k).any fun a=>decide (a.f=x.f)&&decide (a.l=x.l)
theorem z4f (arcs:List GArc) (x:GArc) {k:Nat} (h:k<arcs.length):thB arcs x (k+1)=(thB arcs x k||(decide (arcs[k].f=x.f)&&decide (arcs[k].l=x.l))):=by
 unfold thB
 rw [List.take_succ_eq_append_getElem h,List.any_append]; simp
def q2S (W:WKd) (p:GPlan) (sy:Int) (N i at_:Nat) (ini fin:List GW) (arcs:List GArc) (x:GArc) (k:Nat):St :=
 ⟨[(1,.p (.int .i64 W.k)),(3,.ptr 3 0 0 0),(6,.ptr 6 0 0 0),(7,.ptr 900003 0 0 0),(8,.ptr 8 0 0 0),(12,.p (.int .i64 i)),(13,.ptr 13 0 0 0),(14,.p (.bool (thB arcs x k))),(15,.p (.int .i64 k))],
  hpT p.L at_++[(3,[some ⟨5,[.p (enc p)]⟩]),(6,[some ⟨7,[z7]⟩]),(8,[some ⟨7,[.agg [.p (.int .i64 W.k),.nil,.p (.int .i64 sy),.p (.int .i64 N),.own 1 0 0 N,.own 2 0 0 N,.own 5 0 0 arcs.length]]⟩]),(1,[some ⟨8,avs ini⟩]),(2,[some ⟨8,avs fin⟩]),(5,[some ⟨11,avs arcs⟩]),(13,[some ⟨11,[.p (enc x)]⟩]),(DEAD,[none])]⟩
theorem ztr {W:WKd} {p:GPlan} {sy:Int} {N i at_:Nat} {ini fin:List GW} {arcs:List GArc} {x:GArc} (hl:arcs.length<=1000) {Q:Exit->St->Prop} {ks:List Kt} {st:St} (hw:Weak st (q2S W p sy N i at_ ini fin arcs x 0)) (hx:zem P 185 Q (zbm 4 ks) 4 (q2S W p sy N i at_ ini fin arcs x arcs.length)):vL P 185 Q g.nm ks st:=by
 refine zai (S:=fun k:Nat=>q2S W p sy N i at_ ini fin arcs x k) (I:=fun k=>k<=arcs.length) (m:=fun k=>arcs.length - k) 0 hw (by omega) ?_
 rintro k hk R hn' hr hx'
 have e1:=i64s k (by omega)
 by_cases hlt:k<arcs.length
 ·have hs:=z4f arcs x hlt
  have hlt2:(k:Int)<(arcs.length:Int):=by omega
  simp [g.nm,q2S,hpT,z7,go_sem,hlt2,hlt]
  cases ht:thB arcs x k with
  | true =>
   rw [ht] at hs
   simp [go_sem,e1,ht]
   refine hn' (k+1) _ (Weak.toF [1,3,6,7,8,12,13,14,15] [900003] [((3,0),3),((6,0),6),((8,0),8),((1,0),1),((2,0),2),((5,0),5),((13,0),13)] ?_) (by omega) (by omega)
   simp [go_sem,q2S,hpT,z7,hs]
  | false =>
   rw [ht] at hs
   simp [go_sem,ht,hlt]
   refine zae hlt ?_
   by_cases h1:arcs[k].f=x.f
   ·simp [go_sem,h1,hlt]
    refine zae hlt ?_
    by_cases h2:arcs[k].l=x.l
    all_goals
     simp [h1,h2] at hs
     simp [go_sem,e1,h2]
     refine hn' (k+1) _ (Weak.toF [1,3,6,7,8,12,13,14,15] [900003] [((3,0),3),((6,0),6),((8,0),8),((1,0),1),((2,0),2),((5,0),5),((13,0),13)] ?_) (by omega) (by omega)
     simp [go_sem,q2S,hpT,z7,hs]
   ·simp [h1] at hs
    simp [go_sem,e1,h1]
    refine hn' (k+1) _ (Weak.toF [1,3,6,7,8,12,13,14,15] [900003] [((3,0),3),((6,0),6),((8,0),8),((1,0),1),((2,0),2),((5,0),5),((13,0),13)] ?_) (by omega) (by omega)
    simp [go_sem,q2S,hpT,z7,hs]
 ·have:k=arcs.length:=by omega
  subst this
  simp [g.nm,q2S,hpT,z7,go_sem]
  exact hx' _ _ (by simpa [q2S,hpT,z7,go_sem] using hx)
end Go.Ab
namespace Go.Ab
open Enc (enc)
attribute [local go_sem] zam Opd.slots
def arcP (W:WKd) (L:List Int) (at_:Nat) (N:Nat) (sy:Int):GArc:=⟨tk L at_ N,1+tk L (tn L at_) sy,tk L (tn L (tn L at_)) N,W.wt L (tn L (tn L (tn L at_)))⟩
def arN (W:WKd) (L:List Int) (at_:Nat):Nat:=W.wn L (tn L (tn L (tn L at_)))
def swA (fw:Bool) (x:GArc):GArc:=if fw=true/\x.t<x.f then ⟨x.t,x.l,x.f,x.w⟩ else x
def zp6 (p:GPlan) (arcs:List GArc) (x:GArc):List GArc:=if p.fw=true/\x.f=x.t then arcs else if p.sg=true/\thB arcs (swA p.fw x) arcs.length=true then arcs else arcs++[swA p.fw x]
def zrb (W:WKd) (p:GPlan) (sy:Int) (N:Nat) (s:Nat × List GArc):Nat × List GArc :=
 if s.1<p.L.length/\0<N then (arN W p.L s.1,zp6 p s.2 (arcP W p.L s.1 N sy)) else s
def a3 (W:WKd) (p:GPlan) (sy:Int) (N:Nat) (at0:Nat):Nat->Nat × List GArc
 | 0=>(at0,[])
 | i+1=>zrb W p sy N (a3 W p sy N at0 i)
theorem z3u {W:WKd} {p:GPlan} {sy:Int} {N at0 i:Nat} (h:¬ ((a3 W p sy N at0 i).1<p.L.length/\0<N)):∀ k,a3 W p sy N at0 (i+k)=a3 W p sy N at0 i
 | 0=>rfl
 | k+1=>by
  show zrb W p sy N (a3 W p sy N at0 (i+k))=_
  rw [z3u h k]; unfold zrb; rw [if_neg h]
theorem z14 (p:GPlan) (arcs:List GArc) (x:GArc):(zp6 p arcs x).length<=arcs.length+1:=by
 unfold zp6; split
 ·omega
 ·split
  ·omega
  ·simp
theorem zw7 (W:WKd) (p:GPlan) (sy:Int) (N at0:Nat):∀ i,(a3 W p sy N at0 i).2.length<=i
 | 0=>by simp [a3]
 | i+1=>by
  have ih:=zw7 W p sy N at0 i
  simp only [a3,zrb]
  split
  ·exact Nat.le_trans (z14 _ _ _) (by omega)
  ·omega
theorem yd0 {W:WKd} (hW:W.good) (p:GPlan) (sy:Int) (N:Nat) {at0:Nat} (h:at0<=p.L.length):∀ i,(a3 W p sy N at0 i).1<=p.L.length
 | 0=>h
 | i+1=>by
  have ih:=yd0 hW p sy N h i
  simp only [a3,zrb]
  split
  ·exact hW.le _ _ (zjf (zjf (zjf ih)))
  ·exact ih
def q3S (W:WKd) (p:GPlan) (sy:Int) (N:Nat) (ini fin:List GW) (i:Nat) (s:Nat × List GArc):St :=
 ⟨[(1,.p (.int .i64 W.k)),(3,.ptr 3 0 0 0),(6,.ptr 6 0 0 0),(7,.ptr 900003 0 0 0),(8,.ptr 8 0 0 0),(12,.p (.int .i64 i))],
  hpT p.L s.1++[(3,[some ⟨5,[.p (enc p)]⟩]),(6,[some ⟨7,[z7]⟩]),(8,[some ⟨7,[.agg [.p (.int .i64 W.k),.nil,.p (.int .i64 sy),.p (.int .i64 N),.own 1 0 0 N,.own 2 0 0 N,.own 5 0 0 s.2.length]]⟩]),(1,[some ⟨8,avs ini⟩]),(2,[some ⟨8,avs fin⟩]),(5,[some ⟨11,avs s.2⟩]),(DEAD,[none])]⟩
theorem zqn {e:Nat} {L:List Int} {at_:Nat} {m:Int} {st:St} {K:PCall->AV->St->Prop} (hm:m<=1000000) (hat:at_<=L.length) (hL:L.length<=9223372036854775807) (hk:zbf st (hpT L at_) (hpT L at_))
  (k:K ⟨F.aj,[],.hsp [.ptr 900003 0 0 0,.p (.int .i64 m)] (hpT L at_) (.av (.p (.int .i64 (tk L at_ m)))) (hpT L (tn L at_)),none⟩ (.p (.int .i64 (tk L at_ m))) ⟨st.sl,hpT L (tn L at_)++st.hp⟩):zg8 P st e F.aj [.ptr 900003 0 0 0,.p (.int .i64 m)] K:=by
 refine ze7 (zq4 L at_ m hm hat hL) (by simp [zei]) hk rfl ?_ k
 simp [hpT,zb7,hpOk,zge,za5,zgd]
theorem z8y {W:WKd} (hW:W.good) {p:GPlan} {sy:Int} {N at0:Nat} {ini fin:List GW} (hN:N<=64) (hsy:1<=sy/\sy<=64) (hL:p.L.length<=9223372036854775807) (h0:at0<=p.L.length) {Q:Exit->St->Prop} {ks:List Kt} {st:St} (hw:Weak st (q3S W p sy N ini fin 0 (at0,[])))
  (hx:∀ i,zem P 185 Q (zbm 2 ks) 2 (q3S W p sy N ini fin i (a3 W p sy N at0 14))):vL P 185 Q g.oi ks st:=by
 refine zai (S:=fun i:Nat=>q3S W p sy N ini fin i (a3 W p sy N at0 i)) (I:=fun i=>i<=14) (m:=fun i=>14 - i) 0 hw (by omega) ?_
 rintro i hi R hn' hr hx'
 have e1:=i64s i (by omega)
 have b0:=yd0 hW p sy N h0 i
 have bl:=zw7 W p sy N at0 i
 have hstay:=z3u (W:=W) (p:=p) (sy:=sy) (N:=N) (at0:=at0) (i:=i)
 have hsuc:a3 W p sy N at0 (i+1)=zrb W p sy N (a3 W p sy N at0 i):=rfl
 generalize hs:a3 W p sy N at0 i=s at *
 obtain ⟨at_,arcs⟩:=s
 simp only at b0 bl hstay
 simp [g.oi,q3S,hpT,z7,go_sem]
 have hout:(¬ (at_<p.L.length/\0<N)\/¬ i<14)->zem P 185 Q (zbm 2 ks) 2 (q3S W p sy N ini fin i (at_,arcs)):=fun h=>by
  have hh:=hx i
  have:a3 W p sy N at0 14=(at_,arcs):=by
   by_cases hc:at_<p.L.length/\0<N
   ·have:i=14:=by omega
    rw [<- hs,this]
   ·have:=hstay hc (14 - i)
    rw [show i+(14 - i)=14 by omega] at this
    exact this
  rw [this] at hh; exact hh
 have hexit:(¬ (at_<p.L.length/\0<N)\/¬ i<14)->R (.exit 2) (q3S W p sy N ini fin i (at_,arcs)):=fun h=>hx' _ _ (hout h)
 refine ⟨fun h1=>⟨fun h2=>⟨fun h3=>?_,fun h3=>?_⟩,fun h2=>?_⟩,fun h1=>?_⟩
 rotate_left
 ·simpa [q3S,hpT,z7,go_sem] using hexit (.inl (by omega))
 ·simpa [q3S,hpT,z7,go_sem] using hexit (.inr (by omega))
 ·simpa [q3S,hpT,z7,go_sem] using hexit (.inl (by omega))
 have b1:=zjf b0
 have b2:=zjf b1
 have b3:=zjf b2
 have hw1:=hW.sp p.L _ b3 hL
 have hstep:a3 W p sy N at0 (i+1)=(arN W p.L at_,zp6 p arcs (arcP W p.L at_ N sy)):=by rw [hsuc]; unfold zrb; rw [if_pos ⟨h1,h3⟩]
 have hend:∀ st',Weak st' (q3S W p sy N ini fin (i+1) (arN W p.L at_,zp6 p arcs (arcP W p.L at_ N sy)))->R .normal st':=fun st' h=>hn' (i+1) st' (by rw [hstep]; exact h) (by omega) (by omega)
 have r1:=zq5 p.L (tn p.L at_) hsy.1
 have e2:IntKind.i64.wrap (1+tk p.L (tn p.L at_) sy)=1+tk p.L (tn p.L at_) sy:=i64w (by omega) (by omega)
 refine zqn (by omega) b0 hL (by simp [zbf,St.site,look,hpT]) ?_
 simp [go_sem,hpT]
 refine zqn (by omega) b1 hL (by simp [zbf,St.site,look,hpT]) ?_
 simp [go_sem,hpT,e2]
 refine zqn (by omega) b2 hL (by simp [zbf,St.site,look,hpT]) ?_
 simp [go_sem,hpT]
 refine ze7 hw1 (by simp [zei]) (by simp [zbf,St.site,look,hpT]) rfl (by simp [hpT,zb7,hpOk,zge,za5,zgd]) ?_
 simp [go_sem,zd1,hpT]
 have hX:arcP W p.L at_ N sy=⟨tk p.L at_ N,1+tk p.L (tn p.L at_) sy,tk p.L (tn p.L (tn p.L at_)) N,W.wt p.L (tn p.L (tn p.L (tn p.L at_)))⟩:=rfl
 have hM:arN W p.L at_=W.wn p.L (tn p.L (tn p.L (tn p.L at_))):=rfl
 rw [<- hM]
 generalize arN W p.L at_=atn at *
 generalize W.wt p.L (tn p.L (tn p.L (tn p.L at_)))=ww at *
 generalize tk p.L at_ N=xf at *
 generalize tk p.L (tn p.L (tn p.L at_)) N=xt at *
 generalize 1+tk p.L (tn p.L at_) sy=xl at *
 generalize arcP W p.L at_ N sy=x at *
 subst hX
 have hke0:zp6 p arcs (⟨xf,xl,xt,ww⟩:GArc)=if p.fw=true/\xf=xt then arcs else if p.sg=true/\thB arcs (swA p.fw (⟨xf,xl,xt,ww⟩:GArc)) arcs.length=true then arcs else arcs++[swA p.fw (⟨xf,xl,xt,ww⟩:GArc)]:=rfl
 have hsw:swA p.fw (⟨xf,xl,xt,ww⟩:GArc)=if p.fw=true/\xt<xf then (⟨xt,xl,xf,ww⟩:GArc) else (⟨xf,xl,xt,ww⟩:GArc):=rfl
 cases hfw:p.fw with
 | false =>
  simp [go_sem]
  have hfn:¬ p.fw=true:=by rw [hfw]; exact Bool.false_ne_true
  have hsy2:swA p.fw (⟨xf,xl,xt,ww⟩:GArc)=(⟨xf,xl,xt,ww⟩:GArc):=by rw [hsw,if_neg (show ¬ (p.fw=true/\xt<xf) from fun h=>hfn h.1)]
  have hke:=hke0
  rw [if_neg (show ¬ (p.fw=true/\xf=xt) from fun h=>hfn h.1),hsy2] at hke
  refine ztr (W:=W) (p:=p) (sy:=sy) (N:=N) (i:=i) (at_:=atn) (ini:=ini) (fin:=fin) (arcs:=arcs) (x:=(⟨xf,xl,xt,ww⟩:GArc)) (by omega) (Weak.toF [1,3,6,7,8,12,13,14,15] [900003] [((3,0),3),((6,0),6),((8,0),8),((1,0),1),((2,0),2),((5,0),5),((13,0),13)] ?_) ?_
  ·simp [go_sem,q2S,hpT,z7,thB,hfw]
  simp [q2S,hpT,z7,go_sem,hfw]
  cases hsg:p.sg with
  | true =>
   cases hth:thB arcs (⟨xf,xl,xt,ww⟩:GArc) arcs.length with
   | true =>
    simp [go_sem,e1]
    rw [if_pos ⟨hsg,hth⟩] at hke
    refine hend _ (Weak.toF [1,3,6,7,8,12] [900003] [((3,0),3),((6,0),6),((8,0),8),((1,0),1),((2,0),2),((5,0),5)] ?_)
    simp [go_sem,q3S,hpT,z7,hfw,hsg,hke]
   | false =>
    simp [go_sem,e1]
    rw [if_neg (fun h=>Bool.false_ne_true (hth.symm.trans h.2))] at hke
    refine ⟨by omega,hend _ (Weak.toF [1,3,6,7,8,12] [900003] [((3,0),3),((6,0),6),((8,0),8),((1,0),1),((2,0),2),((182,0),5)] ?_)⟩
    simp [go_sem,q3S,hpT,z7,hfw,hsg,hke]
  | false =>
   simp [go_sem,e1]
   rw [if_neg (fun h=>Bool.false_ne_true (hsg.symm.trans h.1))] at hke
   refine ⟨by omega,hend _ (Weak.toF [1,3,6,7,8,12] [900003] [((3,0),3),((6,0),6),((8,0),8),((1,0),1),((2,0),2),((182,0),5)] ?_)⟩
   simp [go_sem,q3S,hpT,z7,hfw,hsg,hke]
 | true =>
  by_cases hft:xf=xt
  ·have hke:=hke0
   rw [if_pos ⟨hfw,hft⟩] at hke
   simp [go_sem,e1,hft]
   refine hend _ (Weak.toF [1,3,6,7,8,12] [900003] [((3,0),3),((6,0),6),((8,0),8),((1,0),1),((2,0),2),((5,0),5)] ?_)
   simp [go_sem,q3S,hpT,z7,hfw,hke]
  ·by_cases hlt:xt<xf
   ·have hsy2:swA p.fw (⟨xf,xl,xt,ww⟩:GArc)=(⟨xt,xl,xf,ww⟩:GArc):=by rw [hsw,if_pos ⟨hfw,hlt⟩]
    have hke:=hke0
    rw [if_neg (show ¬ (p.fw=true/\xf=xt) from fun h=>hft h.2),hsy2] at hke
    simp [go_sem,hft,hlt]
    refine ztr (W:=W) (p:=p) (sy:=sy) (N:=N) (i:=i) (at_:=atn) (ini:=ini) (fin:=fin) (arcs:=arcs) (x:=(⟨xt,xl,xf,ww⟩:GArc)) (by omega) (Weak.toF [1,3,6,7,8,12,13,14,15] [900003] [((3,0),3),((6,0),6),((8,0),8),((1,0),1),((2,0),2),((5,0),5),((13,0),13)] ?_) ?_
    ·simp [go_sem,q2S,hpT,z7,thB,hfw]
    simp [q2S,hpT,z7,go_sem,hfw]
    cases hsg:p.sg with
    | true =>
     cases hth:thB arcs (⟨xt,xl,xf,ww⟩:GArc) arcs.length with
     | true =>
      simp [go_sem,e1]
      rw [if_pos ⟨hsg,hth⟩] at hke
      refine hend _ (Weak.toF [1,3,6,7,8,12] [900003] [((3,0),3),((6,0),6),((8,0),8),((1,0),1),((2,0),2),((5,0),5)] ?_)
      simp [go_sem,q3S,hpT,z7,hfw,hsg,hke]
     | false =>
      simp [go_sem,e1]
      rw [if_neg (fun h=>Bool.false_ne_true (hth.symm.trans h.2))] at hke
      refine ⟨by omega,hend _ (Weak.toF [1,3,6,7,8,12] [900003] [((3,0),3),((6,0),6),((8,0),8),((1,0),1),((2,0),2),((182,0),5)] ?_)⟩
      simp [go_sem,q3S,hpT,z7,hfw,hsg,hke]
    | false =>
     simp [go_sem,e1]
     rw [if_neg (fun h=>Bool.false_ne_true (hsg.symm.trans h.1))] at hke
     refine ⟨by omega,hend _ (Weak.toF [1,3,6,7,8,12] [900003] [((3,0),3),((6,0),6),((8,0),8),((1,0),1),((2,0),2),((182,0),5)] ?_)⟩
     simp [go_sem,q3S,hpT,z7,hfw,hsg,hke]
   ·have hsy2:swA p.fw (⟨xf,xl,xt,ww⟩:GArc)=(⟨xf,xl,xt,ww⟩:GArc):=by rw [hsw,if_neg (show ¬ (p.fw=true/\xt<xf) from fun h=>hlt h.2)]
    have hke:=hke0
    rw [if_neg (show ¬ (p.fw=true/\xf=xt) from fun h=>hft h.2),hsy2] at hke
    simp [go_sem,hft,hlt]
    refine ztr (W:=W) (p:=p) (sy:=sy) (N:=N) (i:=i) (at_:=atn) (ini:=ini) (fin:=fin) (arcs:=arcs) (x:=(⟨xf,xl,xt,ww⟩:GArc)) (by omega) (Weak.toF [1,3,6,7,8,12,13,14,15] [900003] [((3,0),3),((6,0),6),((8,0),8),((1,0),1),((2,0),2),((5,0),5),((13,0),13)] ?_) ?_
    ·simp [go_sem,q2S,hpT,z7,thB,hfw]
    simp [q2S,hpT,z7,go_sem,hfw]
    cases hsg:p.sg with
    | true =>
     cases hth:thB arcs (⟨xf,xl,xt,ww⟩:GArc) arcs.length with
     | true =>
      simp [go_sem,e1]
      rw [if_pos ⟨hsg,hth⟩] at hke
      refine hend _ (Weak.toF [1,3,6,7,8,12] [900003] [((3,0),3),((6,0),6),((8,0),8),((1,0),1),((2,0),2),((5,0),5)] ?_)
      simp [go_sem,q3S,hpT,z7,hfw,hsg,hke]
     | false =>
      simp [go_sem,e1]
      rw [if_neg (fun h=>Bool.false_ne_true (hth.symm.trans h.2))] at hke
      refine ⟨by omega,hend _ (Weak.toF [1,3,6,7,8,12] [900003] [((3,0),3),((6,0),6),((8,0),8),((1,0),1),((2,0),2),((182,0),5)] ?_)⟩
      simp [go_sem,q3S,hpT,z7,hfw,hsg,hke]
    | false =>
     simp [go_sem,e1]
     rw [if_neg (fun h=>Bool.false_ne_true (hsg.symm.trans h.1))] at hke
     refine ⟨by omega,hend _ (Weak.toF [1,3,6,7,8,12] [900003] [((3,0),3),((6,0),6),((8,0),8),((1,0),1),((2,0),2),((182,0),5)] ?_)⟩
     simp [go_sem,q3S,hpT,z7,hfw,hsg,hke]
end Go.Ab
namespace Go.Ab
open Enc (enc)
attribute [local go_sem] zam Opd.slots
def autN (p:GPlan) (most:Int):Nat:=(wthn p.st (most+1)).toNat
def autS (p:GPlan):Int:=1+wthn p.sy 3
def zs6 (W:WKd) (p:GPlan) (most:Int):GAuto :=
 ⟨W.r,autS p,autN p most,mp (autN p most) (iE W p),mp (autN p most) (fE W p (autN p most)),(a3 W p (autS p) (autN p most) (pA W p.L (autN p most)) 14).2⟩
theorem z69 {W:WKd} (hW:W.good) (p:GPlan) (most:Int) (h0:0<=most) (h1:most<=60):Sp P F.jd [enc p,.int .i64 W.k,.int .i64 most] (.pure (enc (zs6 W p most))):=by
 refine Sp.vz c.jd fun hok=>?_
 have hL:p.L.length<=9223372036854775807:=by
  simp only [okL,z6h,okP] at hok
  simpa [zj0,maxLen] using hok.1.2.2.2.2.1.1
 have hsr:=zcs p.sy (show (1:Int)<=3 by omega)
 have hnr:=zcs p.st (show (1:Int)<=most+1 by omega)
 have hN:autN p most<=64:=by unfold autN; omega
 have hNe:wthn p.st (most+1)=(autN p most:Int):=by unfold autN; omega
 have hS:1<=autS p/\autS p<=64:=by unfold autS; omega
 have e1:IntKind.i64.wrap (1+wthn p.sy 3)=autS p:=i64w (by omega) (by omega)
 have e2:IntKind.i64.wrap (most+1)=most+1:=i64w (by omega) (by omega)
 have hP:zs6 W p most=⟨W.r,autS p,autN p most,mp (autN p most) (iE W p),mp (autN p most) (fE W p (autN p most)),(a3 W p (autS p) (autN p most) (pA W p.L (autN p most)) 14).2⟩:=rfl
 have hal:=zw7 W p (autS p) (autN p most) (pA W p.L (autN p most)) 14
 rw [hP]
 generalize autN p most=N at *
 simp [g.jd,go_sem]
 refine zab (zee p.sy 3 (by omega)) ?_
 simp [go_sem,e1,e2]
 refine zab (zee p.st (most+1) (by omega)) ?_
 rw [hNe]
 generalize autS p=sy at *
 simp [go_sem]
 refine z8z hW (p:=p) (sy:=sy) hN hL ((Weak.nilCell (s0:=8) (g0:=0) (i:=4) (s:=77) (sz:=8) rfl).trans ((Weak.nilCell (s0:=8) (g0:=0) (i:=5) (s:=78) (sz:=8) rfl).trans
  (zjm [1,3,6,7,8,9] [(900003,[(19,0)]),(3,[(3,0)]),(6,[(6,0)]),(8,[(8,0)]),(1,[(77,0)]),(2,[(78,0)])] ?_ (fun σ => σ 19 0=(900003,0) /\ σ 3 0=(3,0) /\ σ 6 0=(6,0) /\ σ 8 0=(8,0) /\ σ 77 0=(1,0) /\ σ 78 0=(2,0)) ?_ ?_))) ?_
 ·simp [zhs,zty,zfh,PINB,DEAD,zet,go_sem]
 ·simp [sgP,zhn,zeh,St.site,look,go_sem]
 ·rintro σ ⟨s1,s2,s3,s4,s5,s6⟩
  simp [hpP,catS,sub,subO,subL,St.get,look,St.site,q1S,hpT,z7,s1,s2,s3,s4,s5,s6,go_sem,mp,pA]
 simp [q1S,hpT,z7,go_sem]
 refine z8y hW (p:=p) (sy:=sy) (N:=N) (at0:=pA W p.L N) (ini:=mp N (iE W p)) (fin:=mp N (fE W p N)) hN hS hL (z9k hW p.L N) ((Weak.nilCell (s0:=8) (g0:=0) (i:=6) (s:=77) (sz:=11) rfl).trans (Weak.toF [1,3,6,7,8,12] [900003] [((3,0),3),((6,0),6),((8,0),8),((1,0),1),((2,0),2),((77,0),5)] ?_)) fun i=>?_
 ·simp [go_sem,q3S,hpT,z7]
 generalize a3 W p sy N (pA W p.L N) 14=s at *
 obtain ⟨at_,arcs⟩:=s
 have t1:(mp N (iE W p)).take N=mp N (iE W p):=List.take_of_length_le (by rw [zdm]; omega)
 have t2:(mp N (fE W p N)).take N=mp N (fE W p N):=List.take_of_length_le (by rw [zdm]; omega)
 simp [q3S,hpT,z7,go_sem,zdm,t1,t2,WKd.r]
end Go.Ab
namespace Go.Ab
open Enc (enc)
attribute [local go_sem] zam Opd.slots
def gsum (s:Nat):Nat->Nat
 | 0=>0
 | i+1=>gsum s i+s^i
theorem zsb (s n:Nat):gsum s n<=gsum s (n+1):=Nat.le_add_right _ _
theorem zmo {s:Nat} (hs:1<=s):∀ n,n<=gsum s n
 | 0=>Nat.zero_le _
 | n+1=>by have:=zmo hs n; have:1<=s^n:=Nat.one_le_pow _ _ hs; simp only [gsum]; omega
def sfW (s:Nat):Nat->Nat->List Int->List Int
 | 0,_,acc=>acc
 | n+1,r,acc=>sfW s n (r / s) ((1+(r % s:Nat):Int)::acc)
def numL (s k:Nat):Nat:=fstU (gsum s) k 400
def zpp (s k:Nat):List Int:=sfW s (numL s k) (k - gsum s (numL s k)) []
def numK (k:Int) (s:Nat):Nat:=(if s<2 then wthn (wthn k 400) 60 else wthn k 400).toNat
theorem z06 {s k:Nat} (hs:1<=s) (hk:k<400):numL s k<400/\gsum s (numL s k)<=k/\k<gsum s (numL s k+1):=by
 have key:∀ n,(∃ i,i<n/\gsum s i<=k/\k<gsum s (i+1))\/gsum s n<=k:=fun n=>by
  induction n with
  | zero=>exact .inr (Nat.zero_le _)
  | succ n ih =>
   rcases ih with ⟨i,h1,h2⟩|h
   ·exact .inl ⟨i,by omega,h2⟩
   ·by_cases h':k<gsum s (n+1)
    ·exact .inl ⟨n,by omega,h,h'⟩
    ·exact .inr (by omega)
 rcases key 400 with ⟨i,h1,h2,h3⟩|h
 ·have:numL s k=i:=zh5 (zsb s) h1 h2 h3
  rw [this]; exact ⟨h1,h2,h3⟩
 ·have:=zmo hs 400; omega
theorem ztw {s k i:Nat} (hi:i<400) (h1:gsum s i<=k) (h2:k<gsum s (i+1)):numL s k=i:=zh5 (zsb s) hi h1 h2
theorem z8r (n:Nat) (x v:AV):(List.replicate (n+1) x).set n v=List.replicate n x++[v]:=by
 rw [List.replicate_succ',List.set_append_right _ _ (by simp)]
 simp
theorem zxl (k:Int) (s:Nat) (hs:1<=s/\s<=64):Sp P F.bj [.int .i64 k,.int .i64 s] (.pure (.sl (ens (zpp s (numK k s))))):=by
 have r1:=zcs k (show (1:Int)<=400 by omega)
 have r2:=zcs (wthn k 400) (show (1:Int)<=60 by omega)
 have hK:numK k s<400:=by unfold numK; split<;>omega
 have hKe:((numK k s:Nat):Int)=if s<2 then wthn (wthn k 400) 60 else wthn k 400:=by unfold numK; split<;>omega
 obtain ⟨l1,l2,l3⟩:=z06 hs.1 hK
 refine Sp.vz c.bj fun _=>?_
 generalize hR:retP [(4,none)] (.pure (.sl (ens (zpp s (numK k s)))))=R
 have hW:zpp s (numK k s)=sfW s (numL s (numK k s)) (numK k s - gsum s (numL s (numK k s))) []:=rfl
 have huni:=fun i hi h1 h2=>ztw (s:=s) (k:=numK k s) (i:=i) hi h1 h2
 generalize numL s (numK k s)=len at *
 generalize numK k s=K at *
 have hlen:len<=K:=Nat.le_trans (zmo hs.1 len) l2
 have main:vL P 45 R g.nk [.blk 0,.code (match g.bj with | .seq _ (.seq _ (.seq _ (.seq _ (.seq _ (.seq _ b)))))=>b|_=>.nop)]
   ⟨[(1,.p (.int .i64 s)),(0,.p (.int .i64 K)),(5,.p (.int .i64 1)),(6,.p (.int .i64 0))],[]⟩:=by
  refine zai (S:=fun i:Nat=>mkSt [(0,.p (.int .i64 (K - gsum s i:Nat))),(1,.p (.int .i64 s)),(5,.p (.int .i64 (s^i:Nat))),(6,.p (.int .i64 i))] []) (I:=fun i=>gsum s i<=K) (m:=fun i=>400 - i) 0
   (Weak.to [0,1,5,6] [] (by simp [go_sem,mkSt,gsum])) (by simp [gsum]) ?_
  rintro i hi R' hn hr hx
  have hik:i<=K:=Nat.le_trans (zmo hs.1 i) hi
  by_cases hc:s^i<=K - gsum s i
  ·have hc2:((s^i:Nat):Int)<=((K - gsum s i:Nat):Int):=by omega
   have hb:s^i*s<=400*64:=Nat.mul_le_mul (by omega) hs.2
   have hg:gsum s (i+1)=gsum s i+s^i:=rfl
   have e1:IntKind.i64.wrap (((K - gsum s i:Nat):Int) - ((s^i:Nat):Int))=((K - gsum s (i+1):Nat):Int):=by rw [i64w (by omega) (by omega)]; omega
   have e2:IntKind.i64.wrap (((s^i:Nat):Int)*(s:Int))=((s^(i+1):Nat):Int):=by
    rw [<- Int.natCast_mul,i64w (by omega) (by omega),Nat.pow_succ]
   have e3:=i64s i (by omega)
   generalize hp:s^i=pw at *
   simp [g.nk,mkSt,go_sem,hc2,e1,e2,e3,-Int.natCast_pow,-Int.natCast_mul]
   exact hn (i+1) _ (Weak.to [0,1,5,6] [] (by simp [mkSt,go_sem,-Int.natCast_pow])) (by omega) (by omega)
  ·have hc2:¬ ((s^i:Nat):Int)<=((K - gsum s i:Nat):Int):=by omega
   have hli:len=i:=huni i (by omega) hi (by show K<gsum s i+s^i; omega)
   subst hli
   generalize hp:s^len=pw at *
   simp [g.nk,mkSt,go_sem,hc2,-Int.natCast_pow]
   refine hx _ _ ?_
   simp [g.bj,go_sem]
   have e5:IntKind.i64.wrap ((len:Int) - 1)=(len:Int) - 1:=i64w (by omega) (by omega)
   refine ⟨by omega,?_⟩
   refine zai (S:=fun x:Nat × Nat × List Int=>mkSt [(0,.p (.int .i64 x.2.1)),(1,.p (.int .i64 s)),(7,.own 27 0 0 len),(8,.p (.int .i64 ((x.1:Int) - 1)))] [(27,⟨1,avs (List.replicate x.1 (0:Int)++x.2.2)⟩)])
    (I:=fun x=>x.1+x.2.2.length=len/\x.2.1<=400/\sfW s x.1 x.2.1 x.2.2=zpp s K) (m:=fun x=>x.1) (len,K - gsum s len,[])
    (Weak.to [0,1,7,8] [((27,0),27)] (by simp [go_sem,mkSt,e5])) ⟨by simp,by simp only; omega,hW.symm⟩ ?_
   rintro ⟨n,r,acc⟩ ⟨h1,h2,h3⟩ R2 hn2 hr2 hx2
   simp only at h1 h2 h3
   cases n with
   | zero =>
    simp [g.n9,mkSt,go_sem]
    refine hx2 _ _ ?_
    simp only [sfW] at h3
    have hla:acc.length=len:=by omega
    have htk:acc.take len=acc:=List.take_of_length_le (by omega)
    simp [go_sem]
    rw [<- hR,<- h3]
    simp [go_sem,hla,htk]
   | succ n =>
    have hlt:n<len:=by omega
    have e7:(r:Int).tmod (s:Int)=((r % s:Nat):Int):=rfl
    have e8:(r:Int).tdiv (s:Int)=((r / s:Nat):Int):=rfl
    have hdiv:=Nat.div_le_self r s
    have hsf:sfW s (n+1) r acc=sfW s n (r / s) ((1+(r % s:Nat):Int)::acc):=rfl
    have hmod:=Nat.mod_lt r (show 0<s by omega)
    rw [hsf] at h3
    generalize r / s=d at *
    generalize r % s=md at *
    have e11:IntKind.i64.wrap ((n:Int) - 1)=(n:Int) - 1:=i64w (by omega) (by omega)
    have e10:IntKind.i64.wrap ((n:Int)+1 - 1 - 1)=(n:Int) - 1:=by rw [i64w (by omega) (by omega)]; omega
    have hs0:¬ s=0:=by omega
    have e12:IntKind.i64.wrap (d:Int)=(d:Int):=i64w (by omega) (by omega)
    have e13:IntKind.i64.wrap (1+(md:Int))=1+(md:Int):=i64w (by omega) (by omega)
    simp [g.n9,mkSt,go_sem]
    refine ⟨hs0,⟨hlt,by omega⟩,?_⟩
    rw [zgf]
    refine ⟨.p (.int .i64 0),by rw [List.getElem?_append_left (by simp)]; simp,?_⟩
    simp only [e7,e8,e13,z8r]
    simp [go_sem,hs0,e8,e12,e11,-Int.natCast_ediv,-Int.natCast_emod]
    refine hn2 (n,d,(1+(md:Int))::acc) _ (Weak.to [0,1,7,8] [((27,0),27)] (by simp [go_sem,mkSt])) ⟨?_,?_,h3⟩ (by simp)
    ·simp only [List.length_cons]; omega
    ·simp only; omega
 by_cases h2:s<2
 ·have h2':(s:Int)<2:=by omega
  rw [if_pos h2] at hKe
  simp [g.bj,go_sem]
  refine zab (zee k 400 (by omega)) ?_
  simp [go_sem,h2']
  refine zab (zee (wthn k 400) 60 (by omega)) ?_
  rw [<- hKe]
  simp [go_sem]
  exact main
 ·have h2':¬ (s:Int)<2:=by omega
  rw [if_neg h2] at hKe
  simp [g.bj,go_sem]
  refine zab (zee k 400 (by omega)) ?_
  rw [<- hKe]
  simp [go_sem,h2']
  exact main
end Go.Ab
namespace Go.Ab
open Enc (enc)
instance:Enc (Int × Int):=⟨fun x=>.agg [.int .i64 x.1,.int .i64 x.2],2,by decide,fun _=>rfl⟩
@[go_sem] theorem yei (x:Int × Int):enc x=.agg [.int .i64 x.1,.int .i64 x.2]:=rfl
@[go_sem] theorem yba:Enc.sz (Int × Int)=2:=rfl
theorem toNat_lt {p:Int} {n:Nat} (h:0<=p/\p<n):∃ k:Nat,p=k/\k<n:=⟨p.toNat,by omega,by omega⟩
end Go.Ab
namespace Go.Ab
open Enc (enc)
end Go.Ab
namespace Go.Ab
open Enc (enc)
end Go.Ab
namespace Go.Ab
open Enc (enc)
structure Meas (r:GRing) where
 mb:Nat->GW->Prop
 lim:Nat
 mono:∀ {m n:Nat} {w:GW},mb m w->m<=n->mb n w
 zero:mb 0 r.zero
 plus:∀ {v w:GW} {n:Nat},v.chk r->w.chk r->mb n v->mb n w->mb (n+1) (r.plus v w)
 times:∀ {v w:GW} {m n:Nat},v.chk r->w.chk r->mb m v->mb n w->mb (m+n+1) (r.times v w)
 plusS:∀ {v w:GW} {n:Nat},n<=lim->v.chk r->w.chk r->mb n v->mb n w->Sp P F.aa [enc r,enc v,enc w] (.pure (enc (r.plus v w)))
 timesS:∀ {v w:GW} {n:Nat},n<=lim->v.chk r->w.chk r->mb n v->mb n w->Sp P F.ae [enc r,enc v,enc w] (.pure (enc (r.times v w)))
def vb {r:GRing} (M:Meas r) (n:Nat) (l:List GW):Prop:=∀ w∈l,w.chk r/\M.mb n w
theorem zs8 {r:GRing} {M:Meas r} {m n:Nat} {l:List GW} (h:vb M m l) (k:m<=n):vb M n l:=fun w hw=>⟨(h w hw).1,M.mono (h w hw).2 k⟩
theorem zyt {r:GRing} {M:Meas r} {n:Nat} {l:List GW} (h:vb M n l) {i:Nat} (hi:i<l.length):(l.getD i r.zero).chk r/\M.mb n (l.getD i r.zero):=by
 rw [List.getD_eq_getElem?_getD,List.getElem?_eq_getElem hi]; exact h _ (List.getElem_mem hi)
def GTArc.fit (x:GTArc) (N:Nat):Prop:=(0<=x.f/\x.f<N)/\0<=x.t/\x.t<N
end Go.Ab
namespace Go.Ab
section
variable {r:GRing} (M:Meas r)
def fits {r:GRing} (M:Meas r) (c N:Nat) (l:List GTArc):Prop:=∀ x∈l,(x.w.chk r/\M.mb c x.w)/\x.fit N
structure GTrans.fits {r:GRing} (M:Meas r) (c:Nat) (t:GTrans):Prop where
 ring:t.ring=r
 st:0<=t.st/\t.st<=64
 arcs:Go.Ab.fits M c t.st.toNat t.arcs
 ini:vb M c t.ini/\t.ini.length=t.st.toNat
 fin:vb M c t.fin/\t.fin.length=t.st.toNat
 rok:r.ok=true
theorem z3w (hr:r.ok=true) (n c:Nat):vb M c (List.replicate n r.zero):=fun w hw=>by
 rw [List.eq_of_mem_replicate hw]
 exact ⟨zer hr,M.mono M.zero (by omega)⟩
variable {M}
def sumW (r:GRing) (ini row:List GW):GW:=(ini.zip row).foldl (fun s p=>r.plus s (r.times p.1 p.2)) r.zero
def sumN (r:GRing) (ini row:List GW) (n:Nat):GW:=((ini.zip row).take n).foldl (fun s p=>r.plus s (r.times p.1 p.2)) r.zero
theorem zq9 {ini row:List GW} {n:Nat} (h1:n<ini.length) (h2:n<row.length):sumN r ini row (n+1)=r.plus (sumN r ini row n) (r.times ini[n] row[n]):=by
 unfold sumN
 rw [List.take_succ_eq_append_getElem (by rw [List.length_zip]; omega),List.foldl_append]
 simp
theorem zze (hr:r.ok=true) {c E:Nat} {ini row:List GW} (hi:vb M c ini) (he:vb M E row):∀ n,n<=ini.length->n<=row.length->(sumN r ini row n).chk r/\M.mb (c+E+1+n) (sumN r ini row n)
 | 0,_,_=>⟨zer hr,M.mono M.zero (by omega)⟩
 | n+1,h1,h2=>by
  have ih:=zze hr hi he n (by omega) (by omega)
  have k1:=hi _ (List.getElem_mem (show n<ini.length by omega))
  have k2:=he _ (List.getElem_mem (show n<row.length by omega))
  rw [zq9 (by omega) (by omega)]
  have ct:=zgl k1.1 k2.1
  exact ⟨zhd ih.1 ct,M.plus ih.1 ct ih.2 (M.mono (M.times k1.1 k2.1 k1.2 k2.2) (Nat.le_add_right _ _))⟩
theorem z4i {ini row:List GW} {n:Nat} (h:ini.length<=n):sumN r ini row n=sumW r ini row:=by
 unfold sumN sumW
 rw [List.take_of_length_le (by rw [List.length_zip]; omega)]
end
end Go.Ab
namespace Go.Ab
open Enc (enc)
end Go.Ab
namespace Go.Ab
open Enc (enc)
section
variable (t:GTrans) (wx wy:List Int)
end
def zho (w:List Int) (m:Int):Prop:=(1<=m/\m<=32)/\w.length<=256/\∀ x∈w,1<=x/\x<=m
noncomputable instance (w:List Int) (m:Int):Decidable (zho w m):=Classical.propDecidable _
end Go.Ab
namespace Go.Ab
open Enc (enc)
end Go.Ab
namespace Go.Ab
open Enc (enc)
end Go.Ab
namespace Go.Ab
open Enc (enc)
structure GModel where
 st:Int
 ini:List Int
 fin:List Int
 arcs:List Int
 em:Bool
instance:Enc GModel:=⟨fun x=>.agg [.int .i64 x.st,.sl (ens x.ini),.sl (ens x.fin),.sl (ens x.arcs),.bool x.em],5,by decide,fun _=>rfl⟩
@[go_sem] theorem ydb (x:GModel):enc x=.agg [.int .i64 x.st,.sl (ens x.ini),.sl (ens x.fin),.sl (ens x.arcs),.bool x.em]:=rfl
@[go_sem] theorem yae:Enc.sz GModel=5:=rfl
end Go.Ab
namespace Go.Ab
section
variable {r:GRing}
def ckL (r:GRing) (N:Nat) (l:List GW):Prop:=(∀ w∈l,w.chk r)/\l.length=N
def ydz (r:GRing) (N:Nat) (l:List GTArc):Prop:=∀ x∈l,x.w.chk r/\x.fit N
structure swap (t u:GTrans):Prop where
 ring:u.ring=t.ring
 st:u.st=t.st
 ini:u.ini=t.ini
 fin:u.fin=t.fin
 arcs:u.arcs.Perm (t.arcs.map swT)
structure ckT (r:GRing) (t:GTrans):Prop where
 ring:t.ring=r
 rok:r.ok=true
 fin:ckL r t.st.toNat t.fin
 arcs:ydz r t.st.toNat t.arcs
end
section
variable {α : Type} {key : α -> List Int} {wt : α -> GW} {r:GRing}
end
end Go.Ab
namespace Go.Ab
open Enc (enc)
attribute [local go_sem] zam Opd.slots
inductive GW.lt:GW->Prop
 | mk {q:GRat} {c:Int} {i:Bool} {s:UInt64} {p:List GMono} {ps:List GW}:q.sm 3->p.length<=8->ps.length<=4->psm p 2->(∀ w∈ps,GW.lt w)->GW.lt (.mk q c i s p ps)
noncomputable instance (w:GW):Decidable w.lt:=Classical.propDecidable _
end Go.Ab
namespace Go.Ab
open Enc (enc)
attribute [local go_sem] zam Opd.slots
structure GAuto.lt (a:GAuto):Prop where
 ring:a.ring.parts.length<=6
 ini:a.ini.length<=6/\∀ w∈a.ini,w.lt
 fin:a.fin.length<=6/\∀ w∈a.fin,w.lt
 al:a.arcs.length<=16
 arcs:∀ x∈a.arcs,x.w.lt
noncomputable instance (a:GAuto):Decidable a.lt:=Classical.propDecidable _
structure GTrans.lt (a:GTrans):Prop where
 ring:a.ring.parts.length<=6
 ini:a.ini.length<=5/\∀ w∈a.ini,w.lt
 fin:a.fin.length<=5/\∀ w∈a.fin,w.lt
 al:a.arcs.length<=12
 arcs:∀ x∈a.arcs,x.w.lt
noncomputable instance (a:GTrans):Decidable a.lt:=Classical.propDecidable _
end Go.Ab
namespace Go.Ab
open Enc (enc)
attribute [local go_sem] zam Opd.slots
def aw1:GW:=.mk (rto 1) 0 false 0 [] []
def ar1:GRing:=⟨1,[]⟩
def at0:GTrans:=⟨ar1,1,3,1,[aw1],[aw1],[⟨0,1,2,0,aw1⟩,⟨0,1,3,0,aw1⟩]⟩
end Go.Ab
namespace Go.Ab
open Enc (enc)
attribute [local go_sem] zam Opd.slots
structure GAuto.fit (a:GAuto):Prop where
 sm:a.sm 1048576
 li:a.ini.length<=1000000
 lf:a.fin.length<=1000000
 la:a.arcs.length<=1000000
structure GTrans.fit (a:GTrans):Prop where
 sm:a.sm 1048576
 li:a.ini.length<=1000000
 lf:a.fin.length<=1000000
 la:a.arcs.length<=1000000
end Go.Ab
namespace Go.Ab
open Enc (enc)
structure GW.tiny (r:GRing) (w:GW):Prop where
 chk:w.chk r
 mb:w.mb 1
 pl:w.poly.length<=3
 ps:∀ x∈w.parts,x.poly.length<=3
structure GTrans.tin (t:GTrans):Prop where
 ok:t.ok
 st:t.st<=3
 al:t.arcs.length<=7
 ini:∀ w∈t.ini,w.tiny t.ring
 fin:∀ w∈t.fin,w.tiny t.ring
 arcs:∀ x∈t.arcs,x.w.tiny t.ring
end Go.Ab
namespace Go.Ab
open Enc (enc)
end Go.Ab
