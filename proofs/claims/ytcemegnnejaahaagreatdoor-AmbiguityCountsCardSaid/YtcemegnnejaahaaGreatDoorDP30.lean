/- Lemmas for the law AmbiguityCounts, part 30. No conditions. -/
import Derived.Test.YtcemegnnejaahaaGreatDoorDP29
set_option maxRecDepth 100000
set_option maxHeartbeats 4000000
set_option linter.all false
namespace Go.Ab
open Enc (enc)
theorem zwd(k n:Int)(h:0<n):(if k.tmod n<0 then k.tmod n+n else k.tmod n)=k % n:=by
 have h1:=Int.tmod_eq_emod (a:=k) (b:=n);have h2:=Int.emod_nonneg k (show n≠0 by omega);have h3:=ykd k h;rw[h1];have h4:(n.natAbs:Int)=n:=by omega
 split<;>split<;>omega
def nx(label:Int)(w:List Int)(a:Nat):Int:=if label=0 then a else if w[a]?=some label then a+1 else -1
end Go.Ab
namespace Go.Ab
open Enc (enc)
attribute [local simp] zai Opd.slots
def wthn(v m:Int):Int:=if m<1 then 0 else v % m
theorem zff(v:Int){m:Int}(h:1<=m):0<=wthn v m/\wthn v m<m:=by unfold wthn;rw[yf0 (by omega)];exact⟨Int.emod_nonneg v (by omega),ykd v (by omega)⟩
theorem zhu(v m:Int)(hm:m<=1000000):Sp P F.az [.int .i64 v,.int .i64 m] (.pure (.int .i64 (wthn v m))):=by
 refine Sp.vz c.az fun _=>?_;unfold wthn;by_cases h:m<1
 ·simp[g.az,h]
 ·have h1:=zwd v m (by omega);have h2:=Int.emod_nonneg v (show m≠0 by omega);have h3:=ykd v (show 0<m by omega);simp[g.az,h];refine⟨by omega,fun h4=>?_,fun h4=>?_⟩
  ·rw[yf1 h4]at h1;rw[h1,i64w (by omega) (by omega)]
  ·rw[yf0 (by omega)]at h1;exact h1
def tk(L:List Int)(at_:Nat)(m:Int):Int:=if at_<L.length then wthn (L.getD at_ 0) m else 0
def tn(L:List Int)(at_:Nat):Nat:=if at_<L.length then at_+1 else at_
theorem zpi(L:List Int)(at_:Nat){m:Int}(h:1<=m):0<=tk L at_ m/\tk L at_ m<m:=by
 unfold tk;split
 ·exact zff _ h
 ·omega
theorem zih{L:List Int}{at_:Nat}(h:at_<=L.length):tn L at_<=L.length:=by unfold tn;split<;>omega
def hpT(L:List Int)(at_:Nat):List Site:=[(900003,[some ⟨2,[.p (.agg [.sl (ens L),.int .i64 at_])]⟩])]
theorem zph(L:List Int)(at_:Nat)(m:Int)(hm:m<=1000000)(hat:at_<=L.length)(hL:L.length<=9223372036854775807) :
  HSp P F.ae [.ptr 900003 0 0 0,.p (.int .i64 m)] (hpT L at_) (.p (.int .i64 (tk L at_ m))) (hpT L (tn L at_)):=by
 refine HSp.of_mr c.ae (by simp) (by simp[hpT,PINB]) (by simp[hpT]) ?_ fun A0 hA0=>MR.of_vm ?_
 ·simp[hpT,zce,hpOk,ze5,zam]
 simp[g.ae,za5,hpT];unfold tk tn;refine⟨fun h=>?_,fun h=>?_⟩
 ·have h1:¬ at_<L.length:=by omega
  rw[yf0 h1,yf0 h1];refine⟨.inl rfl,_,Weak.refl _,_,rfl,?_,?_⟩
  ·simp
  ·simp[zbb,St.site,look]
 ·have h1:at_<L.length:=by omega
  have e1:=i64s at_;have e2:IntKind.i64.wrap (((at_+1:Nat):Int) - 1)=(at_:Int):=by rw[i64w (by omega) (by omega)];omega
  rw[yf1 h1,yf1 h1];simp[e1];have e3:IntKind.i64.wrap (at_:Int)=(at_:Int):=i64w (by omega) (by omega);rw[e3,yh4];refine zad h1 ⟨by omega,?_⟩;have hg:L.getD at_ 0=L[at_]:=by rw[yfj,yfm h1];rfl
  refine zaf (zhu L[at_] m hm) ?_;simp;refine⟨.inl rfl,_,Weak.refl _,_,rfl,?_,?_⟩
  ·simp[h1]
  ·simp[zbb,St.site,look]
theorem zo2{e:Nat}{L:List Int}{at_:Nat}{m:Int}{st:St}{K:PCall->AV->St->Prop}(hm:m<=1000000)(hat:at_<=L.length)(hL:L.length<=9223372036854775807)(hk:zbb st (hpT L at_) (hpT L at_))
  (k:∀ c,K c (.p (.int .i64 (tk L at_ m))) ⟨st.sl,hpT L (tn L at_)++st.hp⟩):zg8 P st e F.ae [.ptr 900003 0 0 0,.p (.int .i64 m)] K:=by
 refine zb7 (zph L at_ m hm hat hL) (by simp[zb0]) hk rfl ?_ (k _);simp[hpT,zce,hpOk,ze5,zam,zdi]
def wtT(L:List Int)(at_:Nat):GW:=if tk L at_ 8=0 then .mk gr0 0 true 0 [] []else .mk gr0 (tk L (tn L at_) 6) false 0 [] []
def wnT(L:List Int)(at_:Nat):Nat:=if tk L at_ 8=0 then tn L at_ else tn L (tn L at_)
theorem z8p{L:List Int}{at_:Nat}(h:at_<=L.length):wnT L at_<=L.length:=by
 unfold wnT;split
 ·exact zih h
 ·exact zih (zih h)
theorem zq0(L:List Int)(at_:Nat)(hat:at_<=L.length)(hL:L.length<=9223372036854775807) :
  HSp P F.cq [.p (.int .i64 2),.ptr 900003 0 0 0] (hpT L at_) (.p (enc (wtT L at_))) (hpT L (wnT L at_)):=by
 refine HSp.of_mr c.cq (by simp) (by simp[hpT,PINB]) (by simp[hpT]) ?_ fun A0 hA0=>MR.of_vm ?_
 ·simp[hpT,zce,hpOk,ze5,zam]
 have h2:=zih hat;unfold wtT wnT;simp[g.cq,za5,hpT];refine zo2 (by omega) hat hL (by simp[zbb,St.site,look,hpT]) fun _=>?_;simp[hpT];refine⟨fun h=>?_,fun h=>?_⟩
 ·simp only[h,yf2];refine⟨.inl rfl,_,Weak.freezeTo (s:=4) (g:=0) (n:=2) [enc (GW.mk gr0 0 true 0 [] [])] [] rfl (by simp[gr0]) (by simp) (by simp),_,rfl,?_,?_⟩
  ·simp[gr0]
  ·simp[zbb,St.site,look,killAll,St.setObj]
 ·simp only[h,yf9];refine zo2 (by omega) h2 hL (by simp[zbb,St.site,look,hpT]) fun _=>?_;simp[hpT];refine⟨.inl rfl,_,Weak.freezeTo (s:=4) (g:=0) (n:=2) [enc (GW.mk gr0 (tk L (tn L at_) 6) false 0 [] [])] [] rfl (by simp[gr0]) (by simp) (by simp),_,rfl,?_,?_⟩
  ·simp[gr0]
  ·simp[zbb,St.site,look,killAll,St.setObj]
structure GPlan where
 st:Int
 sy:Int
 fw:Bool
 sg:Bool
 L:List Int
instance:Enc GPlan:=⟨fun x=>.agg [.int .i64 x.st,.int .i64 x.sy,.bool x.fw,.bool x.sg,.sl (ens x.L)],5,by decide,fun _=>rfl⟩
@[simp] theorem z2t(x:GPlan):enc x=.agg [.int .i64 x.st,.int .i64 x.sy,.bool x.fw,.bool x.sg,.sl (ens x.L)]:=rfl
@[simp] theorem z8b:Enc.sz GPlan=5:=rfl
structure WKd where
 k:Int
 wt:List Int->Nat->GW
 wn:List Int->Nat->Nat
def WKd.r(W:WKd):GRing:=⟨W.k,[]⟩
structure WKd.good (W:WKd):Prop where
 le:∀ L at_,at_<=L.length->W.wn L at_<=L.length
 sp:∀ L at_,at_<=L.length->L.length<=9223372036854775807->HSp P F.cq [.p (.int .i64 W.k),.ptr 900003 0 0 0] (hpT L at_) (.p (enc (W.wt L at_))) (hpT L (W.wn L at_))
def wkT:WKd:=⟨2,wtT,wnT⟩
theorem z0m:wkT.good:=⟨fun _ _ h=>z8p h,fun L at_ h hL=>zq0 L at_ h hL⟩
def pA(W:WKd)(L:List Int):Nat->Nat
 | 0=>0
 | s+1=>tn L (tn L (W.wn L (W.wn L (pA W L s))))
theorem z6b{W:WKd}(hW:W.good)(L:List Int):∀ s,pA W L s<=L.length
 | 0=>yg4 _
 | s+1=>zih (zih (hW.le _ _ (hW.le _ _ (z6b hW L s))))
def iE(W:WKd)(p:GPlan)(s:Nat):GW:=if (tk p.L (W.wn p.L (W.wn p.L (pA W p.L s))) 2=0\/p.sg=true)/\0<s then W.r.zero else W.wt p.L (pA W p.L s)
def fE(W:WKd)(p:GPlan)(N s:Nat):GW:=if tk p.L (tn p.L (W.wn p.L (W.wn p.L (pA W p.L s)))) 2=0/\s+1<N then W.r.zero else W.wt p.L (W.wn p.L (pA W p.L s))
def z7:AV:=.agg [.p (.int .i64 0),.nil,.p (.int .i64 0),.p (.int .i64 0),.nil,.nil,.nil]
def q1S(W:WKd)(p:GPlan)(sy:Int)(N k:Nat):St :=
 ⟨[(1,.p (.int .i64 W.k)),(3,.ptr 3 0 0 0),(6,.ptr 6 0 0 0),(7,.ptr 900003 0 0 0),(8,.ptr 8 0 0 0),(9,.p (.int .i64 k))],
  hpT p.L (pA W p.L k)++[(3,[some ⟨5,[.p (enc p)]⟩]),(6,[some ⟨7,[z7]⟩]),(8,[some ⟨7,[.agg [.p (.int .i64 W.k),.nil,.p (.int .i64 sy),.p (.int .i64 N),.own 1 0 0 k,.own 2 0 0 k,.nil]]⟩]),(1,[some ⟨8,avs (mp k (iE W p))⟩]),(2,[some ⟨8,avs (mp k (fE W p N))⟩]),(DEAD,[none])]⟩
theorem z5w{W:WKd}(hW:W.good){p:GPlan}{sy:Int}{N:Nat}(hN:N<=64)(hL:p.L.length<=9223372036854775807){Q:Exit->St->Prop}{ks:List Kt}{st:St}(hw:Weak st (q1S W p sy N 0))(hx:zb6 P 185 Q (zaw 0 ks) 0 (q1S W p sy N N)):vL P 185 Q g.nt ks st:=by
 refine zaj (S:=fun k:Nat=>q1S W p sy N k) (I:=fun k=>k<=N) (m:=fun k=>N - k) 0 hw (by omega) ?_;rintro k hk R hn' hr hx';have e1:=i64s k;have e2:IntKind.i64.wrap ((N:Int) - 1)=(N:Int) - 1:=i64w (by omega) (by omega);have a0:=z6b hW p.L k;have a1:=hW.le _ _ a0;have a2:=hW.le _ _ a1;have a3:=zih a2;simp[g.nt,q1S,hpT,z7];refine⟨fun hlt=>?_,fun hge=>?_⟩
 ·have hw1:=hW.sp p.L (pA W p.L k) a0 hL;have hw2:=hW.sp p.L (W.wn p.L (pA W p.L k)) a1 hL;have hi:mp (k+1) (iE W p)=mp k (iE W p)++[iE W p k]:=zrs k _;have hf:mp (k+1) (fE W p N)=mp k (fE W p N)++[fE W p N k]:=zrs k _;have hik:iE W p k=if (tk p.L (W.wn p.L (W.wn p.L (pA W p.L k))) 2=0\/p.sg=true)/\0<k then W.r.zero else W.wt p.L (pA W p.L k):=rfl
  have hfk:fE W p N k=if tk p.L (tn p.L (W.wn p.L (W.wn p.L (pA W p.L k)))) 2=0/\k+1<N then W.r.zero else W.wt p.L (W.wn p.L (pA W p.L k)):=rfl
  have hpk:pA W p.L (k+1)=tn p.L (tn p.L (W.wn p.L (W.wn p.L (pA W p.L k)))):=rfl;refine zb7 hw1 (by simp[zb0]) (by simp[zbb,St.site,look,hpT]) rfl (by simp[hpT,zce,hpOk,ze5,zam,zdi]) ?_;simp[zcd,hpT];refine zb7 hw2 (by simp[zb0]) (by simp[zbb,St.site,look,hpT]) rfl (by simp[hpT,zce,hpOk,ze5,zam,zdi]) ?_;simp[zcd,hpT];refine zo2 (by omega) a2 hL (by simp[zbb,St.site,look,hpT]) fun _=>?_;generalize pA W p.L k=at0 at *
  generalize W.wt p.L at0=x at *
  generalize W.wt p.L (W.wn p.L at0)=y at *
  generalize W.wn p.L (W.wn p.L at0)=at2 at *
  have hz:[AV.p (.int .i64 W.k),AV.nil]=[.p (.int .i64 W.k),.nil]:=rfl;have hzero:=z0f W.r;generalize hie:iE W p k=xe at *
  generalize hfe:fE W p N k=ye at *
  by_cases c0:tk p.L at2 2=0
  all_goals by_cases ck:0<k
  all_goals cases hsg:p.sg
  all_goals simp[c0,ck,hsg]at hik
  all_goals simp[hpT,c0,ck,hsg]
  all_goals first|(refine zaa hzero (by simp[WKd.r]) ?_;simp)|skip
  all_goals rw[<- hik]
  all_goals refine zo2 (by omega) a3 hL (by simp[zbb,St.site,look,hpT]) fun _=>?_
  all_goals by_cases c3:tk p.L (tn p.L at2) 2=0
  all_goals by_cases c4:k+1<N
  all_goals simp[c3,c4]at hfk
  all_goals have c5:((k:Int)<(N:Int) - 1)=(k+1<N):=by rw[eq_iff_iff];omega
  all_goals simp[hpT,c3,e2,c5,c4]
  all_goals first|(refine zaa hzero (by simp[WKd.r]) ?_;simp)|skip
  all_goals rw[<- hfk]
  all_goals simp[zbf,e1]
  all_goals refine⟨by omega,hn' (k+1) _ (Weak.toF [1,3,6,7,8,9] [900003] [((3,0),3),((6,0),6),((8,0),8),((79,0),1),((84,0),2)] ?_) (by omega) (by omega)⟩
  all_goals simp[q1S,hpT,z7,hi,hf,hpk,hsg]
 ·have:k=N:=by omega
  subst this;exact hx' _ _ (by simpa[q1S,hpT,z7]using hx)
def thB(arcs:List GArc)(x:GArc)(k:Nat):Bool:=(arcs.take k).any fun a=>decide (a.f=x.f)&&decide (a.l=x.l)
theorem z0w(arcs:List GArc)(x:GArc){k:Nat}(h:k<arcs.length):thB arcs x (k+1)=(thB arcs x k||(decide (arcs[k].f=x.f)&&decide (arcs[k].l=x.l))):=by unfold thB;rw[yfu h,List.any_append];simp
def q2S(W:WKd)(p:GPlan)(sy:Int)(N i at_:Nat)(ini fin:List GW)(arcs:List GArc)(x:GArc)(k:Nat):St :=
 ⟨[(1,.p (.int .i64 W.k)),(3,.ptr 3 0 0 0),(6,.ptr 6 0 0 0),(7,.ptr 900003 0 0 0),(8,.ptr 8 0 0 0),(12,.p (.int .i64 i)),(13,.ptr 13 0 0 0),(14,.p (.bool (thB arcs x k))),(15,.p (.int .i64 k))],
  hpT p.L at_++[(3,[some ⟨5,[.p (enc p)]⟩]),(6,[some ⟨7,[z7]⟩]),(8,[some ⟨7,[.agg [.p (.int .i64 W.k),.nil,.p (.int .i64 sy),.p (.int .i64 N),.own 1 0 0 N,.own 2 0 0 N,.own 5 0 0 arcs.length]]⟩]),(1,[some ⟨8,avs ini⟩]),(2,[some ⟨8,avs fin⟩]),(5,[some ⟨11,avs arcs⟩]),(13,[some ⟨11,[.p (enc x)]⟩]),(DEAD,[none])]⟩
theorem zrh{W:WKd}{p:GPlan}{sy:Int}{N i at_:Nat}{ini fin:List GW}{arcs:List GArc}{x:GArc}(hl:arcs.length<=1000){Q:Exit->St->Prop}{ks:List Kt}{st:St}(hw:Weak st (q2S W p sy N i at_ ini fin arcs x 0))(hx:zb6 P 185 Q (zaw 4 ks) 4 (q2S W p sy N i at_ ini fin arcs x arcs.length)):vL P 185 Q g.mg ks st:=by
 refine zaj (S:=fun k:Nat=>q2S W p sy N i at_ ini fin arcs x k) (I:=fun k=>k<=arcs.length) (m:=fun k=>arcs.length - k) 0 hw (by omega) ?_;rintro k hk R hn' hr hx';have e1:=i64s k;by_cases hlt:k<arcs.length
 ·have hs:=z0w arcs x hlt;have hlt2:(k:Int)<(arcs.length:Int):=by omega
  simp[g.mg,q2S,hpT,z7,hlt2,hlt];cases ht:thB arcs x k with
  | true =>
   rw[ht]at hs;simp[e1,ht];refine hn' (k+1) _ (Weak.toF [1,3,6,7,8,12,13,14,15] [900003] [((3,0),3),((6,0),6),((8,0),8),((1,0),1),((2,0),2),((5,0),5),((13,0),13)] ?_) (by omega) (by omega);simp[q2S,hpT,z7,hs]
  | false =>
   rw[ht]at hs;simp[ht,hlt];refine zad hlt ?_;by_cases h1:arcs[k].f=x.f
   ·simp[h1,hlt];refine zad hlt ?_;by_cases h2:arcs[k].l=x.l
    all_goals
     simp[h1,h2]at hs;simp[e1,h2];refine hn' (k+1) _ (Weak.toF [1,3,6,7,8,12,13,14,15] [900003] [((3,0),3),((6,0),6),((8,0),8),((1,0),1),((2,0),2),((5,0),5),((13,0),13)] ?_) (by omega) (by omega);simp[q2S,hpT,z7,hs]
   ·simp[h1]at hs;simp[e1,h1];refine hn' (k+1) _ (Weak.toF [1,3,6,7,8,12,13,14,15] [900003] [((3,0),3),((6,0),6),((8,0),8),((1,0),1),((2,0),2),((5,0),5),((13,0),13)] ?_) (by omega) (by omega);simp[q2S,hpT,z7,hs]
 ·have:k=arcs.length:=by omega
  subst this;simp[g.mg,q2S,hpT,z7];exact hx' _ _ (by simpa[q2S,hpT,z7]using hx)
def arcP(W:WKd)(L:List Int)(at_:Nat)(N:Nat)(sy:Int):GArc:=⟨tk L at_ N,1+tk L (tn L at_) sy,tk L (tn L (tn L at_)) N,W.wt L (tn L (tn L (tn L at_)))⟩
def arN(W:WKd)(L:List Int)(at_:Nat):Nat:=W.wn L (tn L (tn L (tn L at_)))
def swA(fw:Bool)(x:GArc):GArc:=if fw=true/\x.t<x.f then⟨x.t,x.l,x.f,x.w⟩else x
def zp5(p:GPlan)(arcs:List GArc)(x:GArc):List GArc:=if p.fw=true/\x.f=x.t then arcs else if p.sg=true/\thB arcs (swA p.fw x) arcs.length=true then arcs else arcs++[swA p.fw x]
def zpk(W:WKd)(p:GPlan)(sy:Int)(N:Nat)(s:Nat × List GArc):Nat × List GArc :=
 if s.1<p.L.length/\0<N then(arN W p.L s.1,zp5 p s.2 (arcP W p.L s.1 N sy))else s
def a3(W:WKd)(p:GPlan)(sy:Int)(N:Nat)(at0:Nat):Nat->Nat × List GArc
 | 0=>(at0,[])
 | i+1=>zpk W p sy N (a3 W p sy N at0 i)
theorem z0c{W:WKd}{p:GPlan}{sy:Int}{N at0 i:Nat}(h:¬ ((a3 W p sy N at0 i).1<p.L.length/\0<N)):∀ k,a3 W p sy N at0 (i+k)=a3 W p sy N at0 i
 | 0=>rfl
 | k+1=>by show zpk W p sy N (a3 W p sy N at0 (i+k))=_;rw[z0c h k];unfold zpk;rw[yf0 h]
theorem zys(p:GPlan)(arcs:List GArc)(x:GArc):(zp5 p arcs x).length<=arcs.length+1:=by
 unfold zp5;split
 ·omega
 ·split
  ·omega
  ·simp
theorem zuq(W:WKd)(p:GPlan)(sy:Int)(N at0:Nat):∀ i,(a3 W p sy N at0 i).2.length<=i
 | 0=>by simp[a3]
 | i+1=>by
  have ih:=zuq W p sy N at0 i;simp only[a3,zpk];split
  ·exact yf7 (zys _ _ _) (by omega)
  ·omega
theorem ybk{W:WKd}(hW:W.good)(p:GPlan)(sy:Int)(N:Nat){at0:Nat}(h:at0<=p.L.length):∀ i,(a3 W p sy N at0 i).1<=p.L.length
 | 0=>h
 | i+1=>by
  have ih:=ybk hW p sy N h i;simp only[a3,zpk];split
  ·exact hW.le _ _ (zih (zih (zih ih)))
  ·exact ih
def q3S(W:WKd)(p:GPlan)(sy:Int)(N:Nat)(ini fin:List GW)(i:Nat)(s:Nat × List GArc):St :=
 ⟨[(1,.p (.int .i64 W.k)),(3,.ptr 3 0 0 0),(6,.ptr 6 0 0 0),(7,.ptr 900003 0 0 0),(8,.ptr 8 0 0 0),(12,.p (.int .i64 i))],
  hpT p.L s.1++[(3,[some ⟨5,[.p (enc p)]⟩]),(6,[some ⟨7,[z7]⟩]),(8,[some ⟨7,[.agg [.p (.int .i64 W.k),.nil,.p (.int .i64 sy),.p (.int .i64 N),.own 1 0 0 N,.own 2 0 0 N,.own 5 0 0 s.2.length]]⟩]),(1,[some ⟨8,avs ini⟩]),(2,[some ⟨8,avs fin⟩]),(5,[some ⟨11,avs s.2⟩]),(DEAD,[none])]⟩
theorem zo1{e:Nat}{L:List Int}{at_:Nat}{m:Int}{st:St}{K:PCall->AV->St->Prop}(hm:m<=1000000)(hat:at_<=L.length)(hL:L.length<=9223372036854775807)(hk:zbb st (hpT L at_) (hpT L at_))
  (k:K ⟨F.ae,[],.hsp [.ptr 900003 0 0 0,.p (.int .i64 m)] (hpT L at_) (.av (.p (.int .i64 (tk L at_ m)))) (hpT L (tn L at_)),none⟩ (.p (.int .i64 (tk L at_ m))) ⟨st.sl,hpT L (tn L at_)++st.hp⟩):zg8 P st e F.ae [.ptr 900003 0 0 0,.p (.int .i64 m)] K:=by
 refine zb7 (zph L at_ m hm hat hL) (by simp[zb0]) hk rfl ?_ k;simp[hpT,zce,hpOk,ze5,zam,zdi]
theorem z5v{W:WKd}(hW:W.good){p:GPlan}{sy:Int}{N at0:Nat}{ini fin:List GW}(hN:N<=64)(hsy:1<=sy/\sy<=64)(hL:p.L.length<=9223372036854775807)(h0:at0<=p.L.length){Q:Exit->St->Prop}{ks:List Kt}{st:St}(hw:Weak st (q3S W p sy N ini fin 0 (at0,[])))
  (hx:∀ i,zb6 P 185 Q (zaw 2 ks) 2 (q3S W p sy N ini fin i (a3 W p sy N at0 14))):vL P 185 Q g.ny ks st:=by
 refine zaj (S:=fun i:Nat=>q3S W p sy N ini fin i (a3 W p sy N at0 i)) (I:=fun i=>i<=14) (m:=fun i=>14 - i) 0 hw (by omega) ?_;rintro i hi R hn' hr hx';have e1:=i64s i;have b0:=ybk hW p sy N h0 i;have bl:=zuq W p sy N at0 i;have hstay:=z0c (W:=W) (p:=p) (sy:=sy) (N:=N) (at0:=at0) (i:=i);have hsuc:a3 W p sy N at0 (i+1)=zpk W p sy N (a3 W p sy N at0 i):=rfl;generalize hs:a3 W p sy N at0 i=s at *
 obtain⟨at_,arcs⟩:=s;simp only at b0 bl hstay;simp[g.ny,q3S,hpT,z7];have hout:(¬ (at_<p.L.length/\0<N)\/¬ i<14)->zb6 P 185 Q (zaw 2 ks) 2 (q3S W p sy N ini fin i (at_,arcs)):=fun h=>by
  have hh:=hx i;have:a3 W p sy N at0 14=(at_,arcs):=by
   by_cases hc:at_<p.L.length/\0<N
   ·have:i=14:=by omega
    rw[<- hs,this]
   ·have:=hstay hc (14 - i);rw[show i+(14 - i)=14 by omega]at this;exact this
  rw[this]at hh;exact hh
 have hexit:(¬ (at_<p.L.length/\0<N)\/¬ i<14)->R (.exit 2) (q3S W p sy N ini fin i (at_,arcs)):=fun h=>hx' _ _ (hout h);refine⟨fun h1=>⟨fun h2=>⟨fun h3=>?_,fun h3=>?_⟩,fun h2=>?_⟩,fun h1=>?_⟩;rotate_left
 ·simpa[q3S,hpT,z7]using hexit (.inl (by omega))
 ·simpa[q3S,hpT,z7]using hexit (.inr (by omega))
 ·simpa[q3S,hpT,z7]using hexit (.inl (by omega))
 have b1:=zih b0;have b2:=zih b1;have b3:=zih b2;have hw1:=hW.sp p.L _ b3 hL;have hstep:a3 W p sy N at0 (i+1)=(arN W p.L at_,zp5 p arcs (arcP W p.L at_ N sy)):=by rw[hsuc];unfold zpk;rw[yf1 ⟨h1,h3⟩]
 have hend:∀ st',Weak st' (q3S W p sy N ini fin (i+1) (arN W p.L at_,zp5 p arcs (arcP W p.L at_ N sy)))->R .normal st':=fun st' h=>hn' (i+1) st' (by rw[hstep];exact h) (by omega) (by omega);have r1:=zpi p.L (tn p.L at_) hsy.1;have e2:IntKind.i64.wrap (1+tk p.L (tn p.L at_) sy)=1+tk p.L (tn p.L at_) sy:=i64w (by omega) (by omega);refine zo1 (by omega) b0 hL (by simp[zbb,St.site,look,hpT]) ?_;simp[hpT];refine zo1 (by omega) b1 hL (by simp[zbb,St.site,look,hpT]) ?_;simp[hpT,e2];refine zo1 (by omega) b2 hL (by simp[zbb,St.site,look,hpT]) ?_;simp[hpT];refine zb7 hw1 (by simp[zb0]) (by simp[zbb,St.site,look,hpT]) rfl (by simp[hpT,zce,hpOk,ze5,zam,zdi]) ?_;simp[zcd,hpT];have hX:arcP W p.L at_ N sy=⟨tk p.L at_ N,1+tk p.L (tn p.L at_) sy,tk p.L (tn p.L (tn p.L at_)) N,W.wt p.L (tn p.L (tn p.L (tn p.L at_)))⟩:=rfl;have hM:arN W p.L at_=W.wn p.L (tn p.L (tn p.L (tn p.L at_))):=rfl;rw[<- hM];generalize arN W p.L at_=atn at *
 generalize W.wt p.L (tn p.L (tn p.L (tn p.L at_)))=ww at *
 generalize tk p.L at_ N=xf at *
 generalize tk p.L (tn p.L (tn p.L at_)) N=xt at *
 generalize 1+tk p.L (tn p.L at_) sy=xl at *
 generalize arcP W p.L at_ N sy=x at *
 subst hX;have hke0:zp5 p arcs (⟨xf,xl,xt,ww⟩:GArc)=if p.fw=true/\xf=xt then arcs else if p.sg=true/\thB arcs (swA p.fw (⟨xf,xl,xt,ww⟩:GArc)) arcs.length=true then arcs else arcs++[swA p.fw (⟨xf,xl,xt,ww⟩:GArc)]:=rfl
 have hsw:swA p.fw (⟨xf,xl,xt,ww⟩:GArc)=if p.fw=true/\xt<xf then(⟨xt,xl,xf,ww⟩:GArc)else(⟨xf,xl,xt,ww⟩:GArc):=rfl
 cases hfw:p.fw with
 | false =>
  simp;have hfn:¬ p.fw=true:=by rw[hfw];exact Bool.false_ne_true
  have hsy2:swA p.fw (⟨xf,xl,xt,ww⟩:GArc)=(⟨xf,xl,xt,ww⟩:GArc):=by rw[hsw,yf0 (show ¬ (p.fw=true/\xt<xf) from fun h=>hfn h.1)]
  have hke:=hke0;rw[yf0 (show ¬ (p.fw=true/\xf=xt) from fun h=>hfn h.1),hsy2]at hke;refine zrh (W:=W) (p:=p) (sy:=sy) (N:=N) (i:=i) (at_:=atn) (ini:=ini) (fin:=fin) (arcs:=arcs) (x:=(⟨xf,xl,xt,ww⟩:GArc)) (by omega) (Weak.toF [1,3,6,7,8,12,13,14,15] [900003] [((3,0),3),((6,0),6),((8,0),8),((1,0),1),((2,0),2),((5,0),5),((13,0),13)] ?_) ?_
  ·simp[q2S,hpT,z7,thB,hfw]
  simp[q2S,hpT,z7,hfw];cases hsg:p.sg with
  | true =>
   cases hth:thB arcs (⟨xf,xl,xt,ww⟩:GArc) arcs.length with
   | true =>
    simp[e1];rw[yf1 ⟨hsg,hth⟩]at hke;refine hend _ (Weak.toF [1,3,6,7,8,12] [900003] [((3,0),3),((6,0),6),((8,0),8),((1,0),1),((2,0),2),((5,0),5)] ?_);simp[q3S,hpT,z7,hfw,hsg,hke]
   | false =>
    simp[e1];rw[yf0 (fun h=>Bool.false_ne_true (hth.symm.trans h.2))]at hke;refine⟨by omega,hend _ (Weak.toF [1,3,6,7,8,12] [900003] [((3,0),3),((6,0),6),((8,0),8),((1,0),1),((2,0),2),((182,0),5)] ?_)⟩;simp[q3S,hpT,z7,hfw,hsg,hke]
  | false =>
   simp[e1];rw[yf0 (fun h=>Bool.false_ne_true (hsg.symm.trans h.1))]at hke;refine⟨by omega,hend _ (Weak.toF [1,3,6,7,8,12] [900003] [((3,0),3),((6,0),6),((8,0),8),((1,0),1),((2,0),2),((182,0),5)] ?_)⟩;simp[q3S,hpT,z7,hfw,hsg,hke]
 | true =>
  by_cases hft:xf=xt
  ·have hke:=hke0;rw[yf1 ⟨hfw,hft⟩]at hke;simp[e1,hft];refine hend _ (Weak.toF [1,3,6,7,8,12] [900003] [((3,0),3),((6,0),6),((8,0),8),((1,0),1),((2,0),2),((5,0),5)] ?_);simp[q3S,hpT,z7,hfw,hke]
  ·by_cases hlt:xt<xf
   ·have hsy2:swA p.fw (⟨xf,xl,xt,ww⟩:GArc)=(⟨xt,xl,xf,ww⟩:GArc):=by rw[hsw,yf1 ⟨hfw,hlt⟩]
    have hke:=hke0;rw[yf0 (show ¬ (p.fw=true/\xf=xt) from fun h=>hft h.2),hsy2]at hke;simp[hft,hlt];refine zrh (W:=W) (p:=p) (sy:=sy) (N:=N) (i:=i) (at_:=atn) (ini:=ini) (fin:=fin) (arcs:=arcs) (x:=(⟨xt,xl,xf,ww⟩:GArc)) (by omega) (Weak.toF [1,3,6,7,8,12,13,14,15] [900003] [((3,0),3),((6,0),6),((8,0),8),((1,0),1),((2,0),2),((5,0),5),((13,0),13)] ?_) ?_
    ·simp[q2S,hpT,z7,thB,hfw]
    simp[q2S,hpT,z7,hfw];cases hsg:p.sg with
    | true =>
     cases hth:thB arcs (⟨xt,xl,xf,ww⟩:GArc) arcs.length with
     | true =>
      simp[e1];rw[yf1 ⟨hsg,hth⟩]at hke;refine hend _ (Weak.toF [1,3,6,7,8,12] [900003] [((3,0),3),((6,0),6),((8,0),8),((1,0),1),((2,0),2),((5,0),5)] ?_);simp[q3S,hpT,z7,hfw,hsg,hke]
     | false =>
      simp[e1];rw[yf0 (fun h=>Bool.false_ne_true (hth.symm.trans h.2))]at hke;refine⟨by omega,hend _ (Weak.toF [1,3,6,7,8,12] [900003] [((3,0),3),((6,0),6),((8,0),8),((1,0),1),((2,0),2),((182,0),5)] ?_)⟩;simp[q3S,hpT,z7,hfw,hsg,hke]
    | false =>
     simp[e1];rw[yf0 (fun h=>Bool.false_ne_true (hsg.symm.trans h.1))]at hke;refine⟨by omega,hend _ (Weak.toF [1,3,6,7,8,12] [900003] [((3,0),3),((6,0),6),((8,0),8),((1,0),1),((2,0),2),((182,0),5)] ?_)⟩;simp[q3S,hpT,z7,hfw,hsg,hke]
   ·have hsy2:swA p.fw (⟨xf,xl,xt,ww⟩:GArc)=(⟨xf,xl,xt,ww⟩:GArc):=by rw[hsw,yf0 (show ¬ (p.fw=true/\xt<xf) from fun h=>hlt h.2)]
    have hke:=hke0;rw[yf0 (show ¬ (p.fw=true/\xf=xt) from fun h=>hft h.2),hsy2]at hke;simp[hft,hlt];refine zrh (W:=W) (p:=p) (sy:=sy) (N:=N) (i:=i) (at_:=atn) (ini:=ini) (fin:=fin) (arcs:=arcs) (x:=(⟨xf,xl,xt,ww⟩:GArc)) (by omega) (Weak.toF [1,3,6,7,8,12,13,14,15] [900003] [((3,0),3),((6,0),6),((8,0),8),((1,0),1),((2,0),2),((5,0),5),((13,0),13)] ?_) ?_
    ·simp[q2S,hpT,z7,thB,hfw]
    simp[q2S,hpT,z7,hfw];cases hsg:p.sg with
    | true =>
     cases hth:thB arcs (⟨xf,xl,xt,ww⟩:GArc) arcs.length with
     | true =>
      simp[e1];rw[yf1 ⟨hsg,hth⟩]at hke;refine hend _ (Weak.toF [1,3,6,7,8,12] [900003] [((3,0),3),((6,0),6),((8,0),8),((1,0),1),((2,0),2),((5,0),5)] ?_);simp[q3S,hpT,z7,hfw,hsg,hke]
     | false =>
      simp[e1];rw[yf0 (fun h=>Bool.false_ne_true (hth.symm.trans h.2))]at hke;refine⟨by omega,hend _ (Weak.toF [1,3,6,7,8,12] [900003] [((3,0),3),((6,0),6),((8,0),8),((1,0),1),((2,0),2),((182,0),5)] ?_)⟩;simp[q3S,hpT,z7,hfw,hsg,hke]
    | false =>
     simp[e1];rw[yf0 (fun h=>Bool.false_ne_true (hsg.symm.trans h.1))]at hke;refine⟨by omega,hend _ (Weak.toF [1,3,6,7,8,12] [900003] [((3,0),3),((6,0),6),((8,0),8),((1,0),1),((2,0),2),((182,0),5)] ?_)⟩;simp[q3S,hpT,z7,hfw,hsg,hke]
def autN(p:GPlan)(most:Int):Nat:=(wthn p.st (most+1)).toNat
def autS(p:GPlan):Int:=1+wthn p.sy 3
def zvy(W:WKd)(p:GPlan)(most:Int):GAuto :=
 ⟨W.r,autS p,autN p most,mp (autN p most) (iE W p),mp (autN p most) (fE W p (autN p most)),(a3 W p (autS p) (autN p most) (pA W p.L (autN p most)) 14).2⟩
theorem z3u{W:WKd}(hW:W.good)(p:GPlan)(most:Int)(h0:0<=most)(h1:most<=60):Sp P F.ig [enc p,.int .i64 W.k,.int .i64 most] (.pure (enc (zvy W p most))):=by
 refine Sp.vz c.ig fun hok=>?_;have hL:p.L.length<=9223372036854775807:=by simp only[okL,z2t,okP]at hok;simpa[ziz,maxLen]using hok.1.2.2.2.2.1.1
 have hsr:=zff p.sy (show(1:Int)<=3 by omega);have hnr:=zff p.st (show(1:Int)<=most+1 by omega);have hN:autN p most<=64:=by unfold autN;omega
 have hNe:wthn p.st (most+1)=(autN p most:Int):=by unfold autN;omega
 have hS:1<=autS p/\autS p<=64:=by unfold autS;omega
 have e1:IntKind.i64.wrap (1+wthn p.sy 3)=autS p:=i64w (by omega) (by omega);have e2:IntKind.i64.wrap (most+1)=most+1:=i64w (by omega) (by omega);have hP:zvy W p most=⟨W.r,autS p,autN p most,mp (autN p most) (iE W p),mp (autN p most) (fE W p (autN p most)),(a3 W p (autS p) (autN p most) (pA W p.L (autN p most)) 14).2⟩:=rfl;have hal:=zuq W p (autS p) (autN p most) (pA W p.L (autN p most)) 14;rw[hP];generalize autN p most=N at *
 simp[g.ig];refine zaf (zhu p.sy 3 (by omega)) ?_;simp[e1,e2];refine zaf (zhu p.st (most+1) (by omega)) ?_;rw[hNe];generalize autS p=sy at *
 simp
 refine z5w hW (p:=p) (sy:=sy) hN hL ((Weak.nilCell (s0:=8) (g0:=0) (i:=4) (s:=77) (sz:=8) rfl).trans ((Weak.nilCell (s0:=8) (g0:=0) (i:=5) (s:=78) (sz:=8) rfl).trans
  (zfj [1,3,6,7,8,9] [(900003,[(19,0)]),(3,[(3,0)]),(6,[(6,0)]),(8,[(8,0)]),(1,[(77,0)]),(2,[(78,0)])] ?_ (fun σ => σ 19 0=(900003,0) /\ σ 3 0=(3,0) /\ σ 6 0=(6,0) /\ σ 8 0=(8,0) /\ σ 77 0=(1,0) /\ σ 78 0=(2,0)) ?_ ?_))) ?_
 ·simp[ze4,zl6,zdy,PINB,DEAD,zct]
 ·simp[sgP,zfr,zdm,St.site,look]
 ·rintro σ ⟨s1,s2,s3,s4,s5,s6⟩;simp[hpP,catS,sub,subO,subL,St.get,look,St.site,q1S,hpT,z7,s1,s2,s3,s4,s5,s6,mp,pA]
 simp[q1S,hpT,z7];refine z5v hW (p:=p) (sy:=sy) (N:=N) (at0:=pA W p.L N) (ini:=mp N (iE W p)) (fin:=mp N (fE W p N)) hN hS hL (z6b hW p.L N) ((Weak.nilCell (s0:=8) (g0:=0) (i:=6) (s:=77) (sz:=11) rfl).trans (Weak.toF [1,3,6,7,8,12] [900003] [((3,0),3),((6,0),6),((8,0),8),((1,0),1),((2,0),2),((77,0),5)] ?_)) fun i=>?_
 ·simp[q3S,hpT,z7]
 generalize a3 W p sy N (pA W p.L N) 14=s at *
 obtain⟨at_,arcs⟩:=s;have t1:(mp N (iE W p)).take N=mp N (iE W p):=yfw (by rw[zbf];omega);have t2:(mp N (fE W p N)).take N=mp N (fE W p N):=yfw (by rw[zbf];omega);simp[q3S,hpT,z7,zbf,t1,t2,WKd.r]
end Go.Ab
namespace Go.Ab
section
variable {P:Program} {K:Ctx} {Z Z':Cz} {st st':St} {w w':World} {a:Act}
end
open Enc (enc)
instance:Enc (Int × Int):=⟨fun x=>.agg [.int .i64 x.1,.int .i64 x.2],2,by decide,fun _=>rfl⟩
@[simp] theorem yb2(x:Int × Int):enc x=.agg [.int .i64 x.1,.int .i64 x.2]:=rfl
@[simp] theorem z8c:Enc.sz (Int × Int)=2:=rfl
theorem toNat_lt{p:Int}{n:Nat}(h:0<=p/\p<n):∃ k:Nat,p=k/\k<n:=⟨p.toNat,by omega,by omega⟩
structure Meas (r:GRing) where
 mb:Nat->GW->Prop
 lim:Nat
 mono:∀ {m n:Nat} {w:GW},mb m w->m<=n->mb n w
 zero:mb 0 r.zero
 plus:∀ {v w:GW} {n:Nat},v.chk r->w.chk r->mb n v->mb n w->mb (n+1) (r.plus v w)
 times:∀ {v w:GW} {m n:Nat},v.chk r->w.chk r->mb m v->mb n w->mb (m+n+1) (r.times v w)
 plusS:∀ {v w:GW} {n:Nat},n<=lim->v.chk r->w.chk r->mb n v->mb n w->Sp P F.rf [enc r,enc v,enc w] (.pure (enc (r.plus v w)))
 timesS:∀ {v w:GW} {n:Nat},n<=lim->v.chk r->w.chk r->mb n v->mb n w->Sp P F.rc [enc r,enc v,enc w] (.pure (enc (r.times v w)))
def vb{r:GRing}(M:Meas r)(n:Nat)(l:List GW):Prop:=∀ w∈l,w.chk r/\M.mb n w
def GTArc.fit(x:GTArc)(N:Nat):Prop:=(0<=x.f/\x.f<N)/\0<=x.t/\x.t<N
section
variable {r:GRing} (M:Meas r)
def fits{r:GRing}(M:Meas r)(c N:Nat)(l:List GTArc):Prop:=∀ x∈l,(x.w.chk r/\M.mb c x.w)/\x.fit N
structure GTrans.fits {r:GRing} (M:Meas r) (c:Nat) (t:GTrans):Prop where
 ring:t.ring=r
 st:0<=t.st/\t.st<=64
 arcs:Go.Ab.fits M c t.st.toNat t.arcs
 ini:vb M c t.ini/\t.ini.length=t.st.toNat
 fin:vb M c t.fin/\t.fin.length=t.st.toNat
 rok:r.ok=true
variable {M}
end
section
variable (t:GTrans) (wx wy:List Int)
end
def z8o(w:List Int)(m:Int):Prop:=(1<=m/\m<=32)/\w.length<=256/\∀ x∈w,1<=x/\x<=m
noncomputable instance (w:List Int) (m:Int):Decidable (z8o w m):=Classical.propDecidable _
structure GModel where
 st:Int
 ini:List Int
 fin:List Int
 arcs:List Int
 em:Bool
instance:Enc GModel:=⟨fun x=>.agg [.int .i64 x.st,.sl (ens x.ini),.sl (ens x.fin),.sl (ens x.arcs),.bool x.em],5,by decide,fun _=>rfl⟩
@[simp] theorem yap(x:GModel):enc x=.agg [.int .i64 x.st,.sl (ens x.ini),.sl (ens x.fin),.sl (ens x.arcs),.bool x.em]:=rfl
@[simp] theorem z7e:Enc.sz GModel=5:=rfl
section
variable {r:GRing}
def ckL(r:GRing)(N:Nat)(l:List GW):Prop:=(∀ w∈l,w.chk r)/\l.length=N
def ybj(r:GRing)(N:Nat)(l:List GTArc):Prop:=∀ x∈l,x.w.chk r/\x.fit N
structure swap (t u:GTrans):Prop where
 ring:u.ring=t.ring
 st:u.st=t.st
 ini:u.ini=t.ini
 fin:u.fin=t.fin
 arcs:u.arcs.Perm (t.arcs.map swT)
structure ckT (r:GRing) (t:GTrans):Prop where
 ring:t.ring=r
 rok:r.ok=true
 fin:ckL r t.st.toNat t.fin
 arcs:ybj r t.st.toNat t.arcs
end
section
variable {α : Type} {key : α -> List Int} {wt : α -> GW} {r:GRing}
end
end Go.Ab
namespace Go.Ab
open Enc (enc)
attribute [local simp] zai Opd.slots
inductive GW.lt:GW->Prop
 | mk {q:GRat} {c:Int} {i:Bool} {s:UInt64} {p:List GMono} {ps:List GW}:q.sm 3->p.length<=8->ps.length<=4->psm p 2->(∀ w∈ps,GW.lt w)->GW.lt (.mk q c i s p ps)
noncomputable instance (w:GW):Decidable w.lt:=Classical.propDecidable _
structure GAuto.lt (a:GAuto):Prop where
 ring:a.ring.parts.length<=6
 ini:a.ini.length<=6/\∀ w∈a.ini,w.lt
 fin:a.fin.length<=6/\∀ w∈a.fin,w.lt
 al:a.arcs.length<=16
 arcs:∀ x∈a.arcs,x.w.lt
noncomputable instance (a:GAuto):Decidable a.lt:=Classical.propDecidable _
structure GTrans.lt (a:GTrans):Prop where
 ring:a.ring.parts.length<=6
 ini:a.ini.length<=5/\∀ w∈a.ini,w.lt
 fin:a.fin.length<=5/\∀ w∈a.fin,w.lt
 al:a.arcs.length<=12
 arcs:∀ x∈a.arcs,x.w.lt
noncomputable instance (a:GTrans):Decidable a.lt:=Classical.propDecidable _
def aw1:GW:=.mk (rto 1) 0 false 0 [] []
def ar1:GRing:=⟨1,[]⟩
def at0:GTrans:=⟨ar1,1,3,1,[aw1],[aw1],[⟨0,1,2,0,aw1⟩,⟨0,1,3,0,aw1⟩]⟩
structure GAuto.fit (a:GAuto):Prop where
 sm:a.sm 1048576
 li:a.ini.length<=1000000
 lf:a.fin.length<=1000000
 la:a.arcs.length<=1000000
structure GTrans.fit (a:GTrans):Prop where
 sm:a.sm 1048576
 li:a.ini.length<=1000000
 lf:a.fin.length<=1000000
 la:a.arcs.length<=1000000
end Go.Ab
namespace Go.Ab
open Enc (enc)
structure GW.tiny (r:GRing) (w:GW):Prop where
 chk:w.chk r
 mb:w.mb 1
 pl:w.poly.length<=3
 ps:∀ x∈w.parts,x.poly.length<=3
structure GTrans.tin (t:GTrans):Prop where
 ok:t.ok
 st:t.st<=3
 al:t.arcs.length<=7
 ini:∀ w∈t.ini,w.tiny t.ring
 fin:∀ w∈t.fin,w.tiny t.ring
 arcs:∀ x∈t.arcs,x.w.tiny t.ring
def GArc.fit(x:GArc)(N:Nat):Prop:=(0<=x.f/\x.f<N)/\0<=x.t/\x.t<N
structure GAuto.fits {r:GRing} (M:Meas r) (z:Nat) (a:GAuto):Prop where
 ring:a.ring=r
 st:0<=a.st/\a.st<=64
 arcs:∀ x∈a.arcs,(x.w.chk r/\M.mb z x.w)/\x.fit a.st.toNat
 ini:Go.Ab.vb M z a.ini/\a.ini.length=a.st.toNat
 fin:Go.Ab.vb M z a.fin/\a.fin.length=a.st.toNat
 rok:r.ok=true
def tw(w:GW)(B:Int):Prop:=∃ c i,w=.mk gr0 c i 0 [] []/\0<=c/\c<=B/\(i=true->c=0)
theorem zrg:(⟨2,[]⟩:GRing).ok=true:=by simp[GRing.ok]
theorem zhd{w:GW}{B:Int}(h:tw w B)(hB:B<=1099511627776):w.chk ⟨2,[]⟩:=by obtain⟨c,i,rfl,h2,h3,h4⟩:=h;refine⟨zrg,fun _=>?_,fun h=>by simp at h⟩;exact⟨rfl,fun _ _=>rfl,fun h=>absurd rfl h,fun _=>rfl,fun _=>rfl,fun h=>by simp at h,fun _=>⟨h2,by show c<=_;omega,h4⟩,fun h=>by simp at h,fun h=>by simp at h⟩
theorem zpd{w:GW}{B:Int}(h:tw w B):w.sm 3:=by obtain⟨c,i,rfl,h2,h3,h4⟩:=h;exact .mk (zgm 3) (by intro m hm;simp at hm) (by simp) (by simp) (by simp)
theorem zv3(L:List Int)(a:Nat):tw (wtT L a) 5:=by
 unfold wtT;split
 ·exact⟨0,true,rfl,by omega,by omega,fun _=>rfl⟩
 ·have:=zpi L (tn L a) (show(1:Int)<=6 by omega);exact⟨_,false,rfl,by omega,by omega,fun h=>by cases h⟩
theorem z8n:tw wkT.r.zero 5:=⟨0,true,by simp[WKd.r,wkT,GRing.zero,zrg],by omega,by omega,fun _=>rfl⟩
theorem yac(p:GPlan)(s:Nat):tw (iE wkT p s) 5:=by
 unfold iE;split
 ·exact z8n
 ·exact zv3 _ _
theorem yag(p:GPlan)(N s:Nat):tw (fE wkT p N s) 5:=by
 unfold fE;split
 ·exact z8n
 ·exact zv3 _ _
structure arcOk (N:Nat) (sy:Int) (x:GArc):Prop where
 f:0<=x.f/\x.f<(N:Int)
 t:0<=x.t/\x.t<(N:Int)
 l:1<=x.l/\x.l<=sy
 w:tw x.w 5
theorem z7x{L:List Int}{a N:Nat}{sy:Int}(hN:0<N)(hs:1<=sy):arcOk N sy (arcP wkT L a N sy):=by have h1:=zpi L a (show(1:Int)<=N by omega);have h2:=zpi L (tn L a) hs;have h3:=zpi L (tn L (tn L a)) (show(1:Int)<=N by omega);refine⟨h1,h3,?_,zv3 _ _⟩;show 1<=1+tk L (tn L a) sy/\1+tk L (tn L a) sy<=sy;omega
theorem z9b{N:Nat}{sy:Int}{x:GArc}(fw:Bool)(h:arcOk N sy x):arcOk N sy (swA fw x):=by
 unfold swA;split
 ·exact⟨h.t,h.f,h.l,h.w⟩
 ·exact h
theorem ztk{α : Type}{n:Nat}{f:Nat -> α}{x : α}(h:x∈mp n f):∃ i,i<n/\x=f i:=by obtain⟨i,hi,e⟩:=yf6.1 h;exact⟨i,ygy.1 hi,e.symm⟩
end Go.Ab
namespace Go.Ab
open Enc (enc)
attribute [local simp] zai Opd.slots
structure MdlA (a:GAuto):Prop where
 det:DetA a 3
 ring:a.ring=⟨2,[]⟩
 sy:1<=a.sy/\a.sy<=3
 st:0<=a.st/\a.st<=4
 arcs:∀ x∈a.arcs,tw x.w 5
 ini:∀ w∈a.ini,tw w 5
 fin:∀ w∈a.fin,tw w 5
theorem zjd:tw gw0 5:=⟨0,false,rfl,by omega,by omega,fun h=>by cases h⟩
theorem zp9:¬ gw0=GRing.zero ⟨2,[]⟩:=by
 intro h;have:gw0.inf=(GRing.zero ⟨2,[]⟩).inf:=by rw[<- h]
 simp[GRing.zero,zrg,gw0]at this
theorem z7r(a b:Nat)(ha:a<4294967296^1048576)(hb:b<4294967296^1048576):Sp P F.ea [enc (natR a),enc (natR b)] (.pure (.int .i64 (if a<b then -1 else if b<a then 1 else 0))):=by have h:=zr9 (natR a) (natR b) (zro ha) (zro hb);rw[z1z]at h;exact h
end Go.Ab
namespace Go.Ab
def labI(A:GAuto):Prop:=∀ q,(zba A.arcs q).Pairwise fun x y=>x.l<y.l
section
variable {A:GAuto} {N:Nat} (hA:CtrOk A N) (hL:labI A)
include hA hL
end
abbrev zrT:GW:=GRing.zero ⟨2,[]⟩
end Go.Ab
namespace Go.Ab
open Enc (enc)
attribute [local simp] zai Opd.slots
end Go.Ab
namespace Go.Ab
def lexL:List Int->List Int->Prop
 | [],_=>False
 | _::_,[]=>False
 | c::v,d::w=>c<d\/(c=d/\lexL v w)
structure LabB (A:GAuto) (sy:Int):Prop where
 lo:∀ x∈A.arcs,1<=x.l
 hi:∀ x∈A.arcs,x.l<=sy
end Go.Ab
namespace Go.Ab
open Enc (enc)
attribute [local simp] zai Opd.slots
end Go.Ab
namespace Go.Ab
def slt(v w:List Int):Prop:=v.length<w.length\/(v.length=w.length/\lexL v w)
section
variable {A:GAuto} {N:Nat} (hA:CtrOk A N) (hL:labI A)
include hA hL
end
end Go.Ab
namespace Go.Ab
open Enc (enc)
attribute [local simp] zai Opd.slots
end Go.Ab
namespace Go.Ab
section
variable {A:GAuto} {N:Nat} (hA:CtrOk A N) (hL:labI A) {S:Nat} (hS:1<=S) (hB:LabB A (S:Int)) (s:Int)
include hA hL hS hB
end
end Go.Ab
namespace Go.Ab
open Enc (enc)
attribute [local simp] zai Opd.slots
def mkU(src dst:GArc->Nat)(s:List Bool × Bool)(x:GArc):List Bool × Bool:=if s.1.getD (src x) false=true/\s.1.getD (dst x) false=false then(s.1.set (dst x) true,true)else s
def pasU(src dst:GArc->Nat)(A:List GArc)(u:List Bool)(k:Nat):List Bool × Bool:=(A.take k).foldl (mkU src dst) (u,false)
theorem zgi(src dst:GArc->Nat)(A:List GArc)(u:List Bool){k:Nat}(h:k<A.length):pasU src dst A u (k+1)=mkU src dst (pasU src dst A u k) A[k]:=by unfold pasU;rw[yfu h,yh5];rfl
theorem z6q(src dst:GArc->Nat)(s:List Bool × Bool)(x:GArc):(mkU src dst s x).1.length=s.1.length:=by unfold mkU;split<;>simp
theorem zee(src dst:GArc->Nat)(A:List GArc)(u:List Bool):∀ k,(pasU src dst A u k).1.length=u.length
 | 0=>by simp[pasU]
 | k+1=>by
  by_cases h:k<A.length
  ·rw[zgi _ _ _ _ h,z6q,zee src dst A u k]
  ·have:pasU src dst A u (k+1)=pasU src dst A u k:=by unfold pasU;rw[yfw (by omega),yfw (by omega)]
   rw[this,zee src dst A u k]
def fT(x:GArc):Nat:=x.f.toNat
def tT(x:GArc):Nat:=x.t.toNat
def e2S(v:GView)(A:List GArc)(N:Nat)(s:List Bool × Bool)(k:Nat):St :=
 mkSt [(1,.ptr 1 0 0 0),(3,.own 11 0 0 N),(5,.p (.bool s.2)),(27,.p (.sl (ens A))),(28,.p (.int .i64 A.length)),(29,.p (.int .i64 k))] [(1,⟨8,[.p (enc v)]⟩),(11,⟨1,avs s.1⟩)]
theorem zuv(l:List Bool)(i:Nat)(v:Bool):(avs l).set i (.p (.bool v))=avs (l.set i v):=by show(avs l).set i (.p (enc v))=_;simp[-zat,avs,ens,yht]
theorem z7m{v:GView}{A:List GArc}{N:Nat}(hA:∀ x∈A,(0<=x.f/\x.f<(N:Int))/\0<=x.t/\x.t<(N:Int))(hl:A.length<=100000){u:List Bool}(hu:u.length=N){Q:Exit->St->Prop}{ks:List Kt}{st:St}(hw:Weak st (e2S v A N (u,false) 0))
  (hx:zb6 P 52 Q (zaw 4 ks) 4 (e2S v A N (pasU tT fT A u A.length) A.length)):vL P 52 Q g.na ks st:=by
 refine zaj (S:=fun k:Nat=>e2S v A N (pasU tT fT A u k) k) (I:=fun k=>k<=A.length) (m:=fun k=>A.length - k) 0 hw (by omega) ?_;rintro k hk R hn hr hx';have e1:=i64s k;by_cases hlt:k<A.length
 ·obtain⟨⟨f0,f1⟩,t0,t1⟩:=hA _ (yfi hlt);have hlt2:(k:Int)<(A.length:Int):=by omega
  have hs:=zgi tT fT A u hlt;have hlen:=zee tT fT A u k;have hend:∀ st',Weak st' (e2S v A N (pasU tT fT A u (k+1)) (k+1))->R .normal st':=fun st' h=>hn (k+1) st' h (by omega) (by omega);rw[hs]at hend;generalize pasU tT fT A u k=s at *
  obtain⟨w,b⟩:=s;simp only at hlen;obtain⟨f,hf⟩:∃ f:Nat,A[k].f=(f:Int):=⟨A[k].f.toNat,by omega⟩;obtain⟨t,ht⟩:∃ t:Nat,A[k].t=(t:Int):=⟨A[k].t.toNat,by omega⟩;have hfw:f<w.length:=by omega
  have htw:t<w.length:=by omega
  have gf:w.getD f false=w[f]:=by rw[yfj,yfm hfw];rfl
  have gt:w.getD t false=w[t]:=by rw[yfj,yfm htw];rfl
  have hmk:mkU tT fT (w,b) A[k]=if w[t]=true/\w[f]=false then(w.set f true,true)else(w,b):=by unfold mkU;simp only[tT,fT,hf,ht,yh4,gf,gt]
  rw[hmk]at hend;have hfN:f<N:=by omega
  have htN:t<N:=by omega
  simp[g.na,e2S,mkSt,hlt,hlt2];refine zad hlt ?_;simp[ht,hf,htN,htw];refine⟨by omega,zad htw ?_⟩;cases bt:w[t]with
  | false =>
   rw[bt]at hend;simp only[yfl,false_and,yf9]at hend;simp[e1];exact hend _ (Weak.to [1,3,5,27,28,29] [((1,0),1),((11,0),11)] (by simp[e2S,mkSt]))
  | true =>
   rw[bt]at hend;simp[hfN,hfw];refine⟨by omega,zad hfw ?_⟩;cases bf:w[f]with
   | true =>
    rw[bf]at hend;simp only[yjt,and_false,yf9]at hend;simp[e1];exact hend _ (Weak.to [1,3,5,27,28,29] [((1,0),1),((11,0),11)] (by simp[e2S,mkSt]))
   | false =>
    rw[bf]at hend;simp only[and_self,yf2]at hend;simp[hfN,hfw,e1];refine⟨by omega,zad hfw ?_⟩;rw[zuv];exact hend _ (Weak.to [1,3,5,27,28,29] [((1,0),1),((11,0),11)] (by simp[e2S,mkSt]))
 ·have:k=A.length:=by omega
  subst this;simp[g.na,e2S,mkSt];exact hx' _ _ (by simpa[e2S,mkSt]using hx)
end Go.Ab
namespace Go.Ab
def cfB:List Bool->Nat
 | []=>0
 | b::l=>(!b).toNat+cfB l
theorem zzw:∀ (l:List Bool) (i:Nat),l.getD i true=false->cfB (l.set i true)+1=cfB l
 | [],i,h=>by simp at h
 | b::l,0,h=>by
  have:b=false:=by simpa using h
  subst this;simp[cfB];omega
 | b::l,i+1,h=>by have:=zzw l i (by simpa using h);simp only[List.set_cons_succ,cfB];omega
theorem zqd{l:List Bool}{i q:Nat}(hi:i<l.length):(l.set i true).getD q false=if i=q then true else l.getD q false:=by
 rw[yfj,yfj,yk0];by_cases h:i=q
 ·subst h;simp[hi]
 ·simp[h]
section
variable {src dst:GArc->Nat} {A:List GArc} {u:List Bool} {N:Nat} (hu:u.length=N) (hd:∀ x∈A,dst x<N)
include hu hd
theorem zn2:∀ k,k<=A.length->(∀ q,u.getD q false=true->(pasU src dst A u k).1.getD q false=true) /\
  ((pasU src dst A u k).2=false->(pasU src dst A u k).1=u/\∀ j,(h:j<A.length)->j<k->u.getD (src A[j]) false=true->u.getD (dst A[j]) false=true) /\
  ((pasU src dst A u k).2=true->cfB (pasU src dst A u k).1<cfB u)
 | 0,_=>⟨fun q h=>h,fun _=>⟨rfl,fun j _ h=>by omega⟩,fun h=>by cases h⟩
 | k+1,hk=>by
  obtain⟨h1,h2,h3⟩:=zn2 k (by omega);have hlen:=zee src dst A u k;have hdk:=hd _ (yfi (show k<A.length by omega));rw[zgi src dst A u (show k<A.length by omega)];generalize pasU src dst A u k=s at *
  obtain⟨w,b⟩:=s;simp only at h1 h2 h3 hlen;unfold mkU;by_cases hc:w.getD (src A[k]) false=true/\w.getD (dst A[k]) false=false
  ·rw[yf1 hc];simp only;have hset:=zzw w (dst A[k]) (by
    rw[yfj,yfm (by omega)];have:=hc.2;rw[yfj,yfm (by omega)]at this;exact this)
   refine⟨fun q h=>?_,fun h=>(by cases h),fun _=>?_⟩
   ·rw[zqd (by omega)];split
    ·rfl
    ·exact h1 q h
   ·cases b with
    | false=>obtain⟨rfl,_⟩:=h2 rfl;omega
    | true=>have:=h3 rfl;omega
  ·rw[yf0 hc];simp only;refine⟨h1,fun hb=>?_,h3⟩;obtain⟨rfl,h4⟩:=h2 hb;refine⟨rfl,fun j hj hjk hs=>?_⟩;by_cases e:j=k
   ·subst e;cases hh:w.getD (dst A[j]) false with
    | true=>rfl
    | false=>exact absurd ⟨hs,hh⟩ hc
   ·exact h4 j hj (by omega) hs
theorem zil{P:Nat->Prop}(hP:∀ x∈A,P (src x)->P (dst x))(h0:∀ q,u.getD q false=true->P q):∀ k,k<=A.length->∀ q,(pasU src dst A u k).1.getD q false=true->P q
 | 0,_,q,h=>h0 q h
 | k+1,hk,q,h=>by
  have ih:=zil hP h0 k (by omega);have hlen:=zee src dst A u k;have hm:=yfi (show k<A.length by omega);have hdk:=hd _ hm;rw[zgi src dst A u (show k<A.length by omega)]at h;generalize pasU src dst A u k=s at *
  obtain⟨w,b⟩:=s;simp only at ih hlen;unfold mkU at h;by_cases hc:w.getD (src A[k]) false=true/\w.getD (dst A[k]) false=false
  ·rw[yf1 hc]at h;simp only at h;rw[zqd (by omega)]at h;split at h
   ·rename_i e;subst e;exact hP _ hm (ih _ hc.1)
   ·exact ih q h
  ·rw[yf0 hc]at h;exact ih q h
end
inductive Mk (src dst:GArc->Nat) (A:List GArc) (P0:Nat->Prop):Nat->Prop
 | base {q:Nat}:P0 q->Mk src dst A P0 q
 | step {x:GArc}:x∈A->Mk src dst A P0 (src x)->Mk src dst A P0 (dst x)
open Classical in
noncomputable def mkV(src dst:GArc->Nat)(A:List GArc)(P0:Nat->Prop)(N:Nat):List Bool:=mp N fun q=>decide (Mk src dst A P0 q)
open Classical in
theorem z4e{src dst:GArc->Nat}{A:List GArc}{P0:Nat->Prop}{N:Nat}{u:List Bool}(hu:u.length=N)(h0:∀ q,q<N->P0 q->u.getD q false=true)(hP:∀ q,P0 q->q<N)(hs:∀ q,u.getD q false=true->Mk src dst A P0 q)
  (hc:∀ x∈A,u.getD (src x) false=true->u.getD (dst x) false=true):u=mkV src dst A P0 N:=by
 have key:∀ q,Mk src dst A P0 q->u.getD q false=true:=fun q h=>by
  induction h with
  | base h=>exact h0 _ (hP _ h) h
  | step hx _ ih=>exact hc _ hx ih
 unfold mkV;refine yhq (by rw[zbf];exact hu) fun i h1 h2=>?_;rw[zeh];have e:u.getD i false=u[i]:=by rw[yfj,yfm h1];rfl
 cases hb:u[i]with
 | true=>exact(decide_eq_true (hs i (e.trans hb))).symm
 | false=>exact(decide_eq_false fun h=>by have:=key i h;rw[e,hb]at this;cases this).symm
end Go.Ab
namespace Go.Ab
open Enc (enc)
attribute [local simp] zai Opd.slots
def endP(A:GAuto)(N:Nat)(q:Nat):Prop:=q<N/\A.fin.getD q A.ring.zero≠A.ring.zero
noncomputable def endV(A:GAuto)(N:Nat):List Bool:=mkV tT fT A.arcs (endP A N) N
noncomputable def fin0(A:GAuto)(N k:Nat):List Bool:=mp N fun q=>if q<k then decide (A.fin.getD q A.ring.zero≠A.ring.zero)else false
theorem z2o(A:GAuto){N k:Nat}(hk:k<N):(fin0 A N k).set k (decide (A.fin.getD k A.ring.zero≠A.ring.zero))=fin0 A N (k+1):=by
 unfold fin0;rw[zmx];apply zdc;intro q hq;by_cases h:q=k
 ·subst h;simp
 ·by_cases h2:q<k
  ·rw[yf0 h,yf1 h2,yf1 (by omega)]
  ·rw[yf0 h,yf0 h2,yf0 (by omega)]
theorem zub{A:GAuto}{N k q:Nat}(hq:q<N):(fin0 A N k).getD q false=if q<k then decide (A.fin.getD q A.ring.zero≠A.ring.zero)else false:=by
 have hl:q<(fin0 A N k).length:=by unfold fin0;rw[zbf];exact hq
 rw[yfj,yfm hl];simp only[fin0,zeh,yhn]
theorem zos(A:GAuto)(N k:Nat):(fin0 A N k).length=N:=zbf _ _
noncomputable def e1S(A:GAuto)(N k:Nat):St :=
 mkSt [(1,.ptr 1 0 0 0),(3,.own 11 0 0 N),(13,.p (.int .i64 N)),(14,.p (.int .i64 k))] [(1,⟨8,[.p (enc (zas A))]⟩),(11,⟨1,avs (fin0 A N k)⟩)]
def e3S(A:GAuto)(N:Nat)(s:List Bool × Bool):St :=
 mkSt [(1,.ptr 1 0 0 0),(3,.own 11 0 0 N),(5,.p (.bool s.2))] [(1,⟨8,[.p (enc (zas A))]⟩),(11,⟨1,avs s.1⟩)]
theorem z2r{A:GAuto}{N:Nat}(hA:CtrOk A N):Sp P F.jk [enc (zas A)] (.fresh 1 (ens (endV A N))):=by
 have hN:=hA.N1;have hst:(zas A).a.st=(N:Int):=hA.inN.st;have hva:(zas A).a=A:=rfl;have hal:=hA.al;have hr:∀ x∈A.arcs,(0<=x.f/\x.f<(N:Int))/\0<=x.t/\x.t<(N:Int):=fun x hx=>⟨hA.inN.f x hx,hA.t x hx⟩;have hd:∀ x∈A.arcs,fT x<N:=fun x hx=>by have:=hr x hx;unfold fT;omega
 refine Sp.vz c.jk fun _=>?_;simp[g.jk,hst];refine⟨by omega,?_⟩;refine zaj (S:=fun k:Nat=>e1S A N k) (I:=fun k=>k<=N) (m:=fun k=>N - k) 0 (Weak.to [1,3,13,14] [((1,0),1),((11,0),11)] ?_) (by omega) ?_
 ·have:fin0 A N 0=List.replicate N false:=by unfold fin0;rw[<- zj1];apply zdc;intro q _;simp
  simp[e1S,mkSt,this,hst]
 rintro k hk R hn hr' hx;have e1:=i64s k;by_cases hlt:k<N
 ·have hki:k<(zas A).a.fin.length:=by show k<A.fin.length;rw[hA.fl];exact hlt
  have hset:=z2o A hlt;have hg:A.fin.getD k A.ring.zero=A.fin[k]'(by rw[hA.fl];exact hlt):=by rw[yfj,yfm (by rw[hA.fl];exact hlt)];rfl
  have hes:=zy8 (zas A) k hki hA.fsm;have hdec:decide ((zas A).a.fin[k]≠(zas A).a.ring.zero)=decide (A.fin.getD k A.ring.zero≠A.ring.zero):=by rw[hg];rfl
  rw[hdec]at hes;have hfl:=zos A N k;have hend:∀ st',Weak st' (e1S A N (k+1))->R .normal st':=fun st' h=>hn (k+1) st' h (by omega) (by omega);unfold e1S at hend ⊢;rw[<- hset]at hend;generalize fin0 A N k=u at *
  generalize decide (A.fin.getD k A.ring.zero≠A.ring.zero)=b at *
  simp[g.oh,mkSt,hlt];refine zaf hes ?_;simp[hlt,e1,hfl];refine zad (by omega) ?_;rw[zuv];exact hend _ (Weak.to [1,3,13,14] [((1,0),1),((11,0),11)] (by simp[mkSt]))
 ·have:k=N:=by omega
  subst this;have h00:∀ q,q<k->endP A k q->(fin0 A k k).getD q false=true:=fun q hq h=>by rw[zub hq,yf1 hq];exact decide_eq_true h.2
  have h01:∀ q,(fin0 A k k).getD q false=true->Mk tT fT A.arcs (endP A k) q:=fun q h=>by
   by_cases hq:q<k
   ·rw[zub hq,yf1 hq]at h;exact .base ⟨hq,of_decide_eq_true h⟩
   ·rw[yfj,yi3 (by rw[zos];omega)]at h;cases h
  have hfl:=zos A k k;simp[g.oh,e1S,mkSt];refine hx _ _ ?_;generalize fin0 A k k=u0 at *
  simp
  refine zaj (S:=fun s:List Bool × Bool=>e3S A k s) (I:=fun s=>s.1.length=k/\(∀ q,q<k->endP A k q->s.1.getD q false=true)/\(∀ q,s.1.getD q false=true->Mk tT fT A.arcs (endP A k) q)/\(s.2=false->∀ x∈A.arcs,s.1.getD (tT x) false=true->s.1.getD (fT x) false=true))
   (m:=fun s=>2*cfB s.1+s.2.toNat) (u0,true) (Weak.to [1,3,5] [((1,0),1),((11,0),11)] (by simp[e3S,mkSt])) ⟨hfl,h00,h01,fun h=>by cases h⟩ ?_
  rintro⟨u,b⟩ ⟨u1,u2,u3,u4⟩ R2 hn2 hr2 hx2;simp only at u1 u2 u3 u4;cases b with
  | false =>
   have he:=z4e u1 u2 (fun q h=>h.1) u3 (u4 rfl);simp[g.oi,e3S,mkSt];refine hx2 _ _ ?_;rw[show endV A k=u from he.symm];simp[u1]
  | true =>
   simp[g.oi,e3S,mkSt];refine z7m (v:=zas A) (A:=A.arcs) (N:=k) hr (by omega) u1 (Weak.to [1,3,5,27,28,29] [((1,0),1),((11,0),11)] (by simp[e2S,mkSt,hva])) ?_;obtain⟨p1,p2,p3⟩:=zn2 (src:=tT) (dst:=fT) (A:=A.arcs) u1 hd A.arcs.length (yf8 _);have p4:=zil (src:=tT) (dst:=fT) (A:=A.arcs) u1 hd (P:=Mk tT fT A.arcs (endP A k)) (fun x hx h=>.step hx h) u3 A.arcs.length (yf8 _);have p5:=zee tT fT A.arcs u A.arcs.length;generalize pasU tT fT A.arcs u A.arcs.length=s at *
   simp[e2S,mkSt];refine hn2 s _ (Weak.to [1,3,5] [((1,0),1),((11,0),11)] (by simp[e3S,mkSt])) ⟨by omega,fun q hq h=>p1 q (u2 q hq h),p4,fun hb x hx h=>?_⟩ ?_
   ·obtain⟨q1,q2⟩:=p2 hb;obtain⟨j,hj,rfl⟩:=yjp.1 hx;rw[q1]at h ⊢;exact q2 j hj hj h
   ·obtain⟨w,b⟩:=s;cases b with
    | false=>obtain⟨rfl,_⟩:=p2 rfl;simp
    | true=>have:=p3 rfl;simp only[Bool.toNat_true]at this ⊢;omega
def g2S(v:GView)(A:List GArc)(N:Nat)(E:List Bool)(s:List Bool × Bool)(k:Nat):St :=
 mkSt [(1,.ptr 1 0 0 0),(3,.own 11 0 0 N),(4,.own 15 0 0 N),(6,.p (.bool s.2)),(31,.p (.sl (ens A))),(32,.p (.int .i64 A.length)),(33,.p (.int .i64 k))] [(1,⟨8,[.p (enc v)]⟩),(11,⟨1,avs E⟩),(15,⟨1,avs s.1⟩)]
theorem z68{v:GView}{A:List GArc}{N:Nat}{E:List Bool}(hA:∀ x∈A,(0<=x.f/\x.f<(N:Int))/\0<=x.t/\x.t<(N:Int))(hl:A.length<=100000){u:List Bool}(hu:u.length=N){Q:Exit->St->Prop}{ks:List Kt}{st:St}(hw:Weak st (g2S v A N E (u,false) 0))
  (hx:zb6 P 75 Q (zaw 4 ks) 4 (g2S v A N E (pasU fT tT A u A.length) A.length)):vL P 75 Q g.mz ks st:=by
 refine zaj (S:=fun k:Nat=>g2S v A N E (pasU fT tT A u k) k) (I:=fun k=>k<=A.length) (m:=fun k=>A.length - k) 0 hw (by omega) ?_;rintro k hk R hn hr hx';have e1:=i64s k;by_cases hlt:k<A.length
 ·obtain⟨⟨f0,f1⟩,t0,t1⟩:=hA _ (yfi hlt);have hlt2:(k:Int)<(A.length:Int):=by omega
  have hs:=zgi fT tT A u hlt;have hlen:=zee fT tT A u k;have hend:∀ st',Weak st' (g2S v A N E (pasU fT tT A u (k+1)) (k+1))->R .normal st':=fun st' h=>hn (k+1) st' h (by omega) (by omega);rw[hs]at hend;generalize pasU fT tT A u k=s at *
  obtain⟨w,b⟩:=s;simp only at hlen;obtain⟨f,hf⟩:∃ f:Nat,A[k].f=(f:Int):=⟨A[k].f.toNat,by omega⟩;obtain⟨t,ht⟩:∃ t:Nat,A[k].t=(t:Int):=⟨A[k].t.toNat,by omega⟩;have hfw:f<w.length:=by omega
  have htw:t<w.length:=by omega
  have gf:w.getD f false=w[f]:=by rw[yfj,yfm hfw];rfl
  have gt:w.getD t false=w[t]:=by rw[yfj,yfm htw];rfl
  have hmk:mkU fT tT (w,b) A[k]=if w[f]=true/\w[t]=false then(w.set t true,true)else(w,b):=by unfold mkU;simp only[tT,fT,hf,ht,yh4,gf,gt]
  rw[hmk]at hend;have hfN:f<N:=by omega
  have htN:t<N:=by omega
  simp[g.mz,g2S,mkSt,hlt,hlt2];refine zad hlt ?_;simp[ht,hf,hfN,hfw];refine⟨by omega,zad hfw ?_⟩;cases bf:w[f]with
  | false =>
   rw[bf]at hend;simp only[yfl,false_and,yf9]at hend;simp[e1];exact hend _ (Weak.to [1,3,4,6,31,32,33] [((1,0),1),((11,0),11),((15,0),15)] (by simp[g2S,mkSt]))
  | true =>
   rw[bf]at hend;simp[htN,htw];refine⟨by omega,zad htw ?_⟩;cases bt:w[t]with
   | true =>
    rw[bt]at hend;simp only[yjt,and_false,yf9]at hend;simp[e1];exact hend _ (Weak.to [1,3,4,6,31,32,33] [((1,0),1),((11,0),11),((15,0),15)] (by simp[g2S,mkSt]))
   | false =>
    rw[bt]at hend;simp only[and_self,yf2]at hend;simp[htN,htw,e1];refine⟨by omega,zad htw ?_⟩;rw[zuv];exact hend _ (Weak.to [1,3,4,6,31,32,33] [((1,0),1),((11,0),11),((15,0),15)] (by simp[g2S,mkSt]))
 ·have:k=A.length:=by omega
  subst this;simp[g.mz,g2S,mkSt];exact hx' _ _ (by simpa[g2S,mkSt]using hx)
def begP(A:GAuto)(N:Nat)(q:Nat):Prop:=q<N/\A.ini.getD q A.ring.zero≠A.ring.zero
noncomputable def begV(A:GAuto)(N:Nat):List Bool:=mkV fT tT A.arcs (begP A N) N
noncomputable def ini0(A:GAuto)(N k:Nat):List Bool:=mp N fun q=>if q<k then decide (A.ini.getD q A.ring.zero≠A.ring.zero)else false
theorem z2d(A:GAuto){N k:Nat}(hk:k<N):(ini0 A N k).set k (decide (A.ini.getD k A.ring.zero≠A.ring.zero))=ini0 A N (k+1):=by
 unfold ini0;rw[zmx];apply zdc;intro q hq;by_cases h:q=k
 ·subst h;simp
 ·by_cases h2:q<k
  ·rw[yf0 h,yf1 h2,yf1 (by omega)]
  ·rw[yf0 h,yf0 h2,yf0 (by omega)]
theorem ztx{A:GAuto}{N k q:Nat}(hq:q<N):(ini0 A N k).getD q false=if q<k then decide (A.ini.getD q A.ring.zero≠A.ring.zero)else false:=by
 have hl:q<(ini0 A N k).length:=by unfold ini0;rw[zbf];exact hq
 rw[yfj,yfm hl];simp only[ini0,zeh,yhn]
theorem zol(A:GAuto)(N k:Nat):(ini0 A N k).length=N:=zbf _ _
noncomputable def g1S(A:GAuto)(N k:Nat):St :=
 mkSt [(1,.ptr 1 0 0 0),(3,.own 11 0 0 N),(4,.own 15 0 0 N),(17,.p (.int .i64 N)),(18,.p (.int .i64 k))] [(1,⟨8,[.p (enc (zas A))]⟩),(11,⟨1,avs (endV A N)⟩),(15,⟨1,avs (ini0 A N k)⟩)]
noncomputable def g3S(A:GAuto)(N:Nat)(s:List Bool × Bool):St :=
 mkSt [(1,.ptr 1 0 0 0),(3,.own 11 0 0 N),(4,.own 15 0 0 N),(6,.p (.bool s.2))] [(1,⟨8,[.p (enc (zas A))]⟩),(11,⟨1,avs (endV A N)⟩),(15,⟨1,avs s.1⟩)]
noncomputable def andV(E B:List Bool)(N k:Nat):List Bool:=mp N fun q=>if q<k then E.getD q false&&B.getD q false else E.getD q false
theorem zc3(E B:List Bool)(N k:Nat):(andV E B N k).length=N:=zbf _ _
theorem z3w{E B:List Bool}{N k:Nat}(hk:k<N):(andV E B N k).getD k false=E.getD k false:=by
 have hl:k<(andV E B N k).length:=by rw[zc3];exact hk
 rw[yfj,yfm hl];simp[andV,zeh]
theorem z3v(E B:List Bool){N k:Nat}(hk:k<N):(andV E B N k).set k (E.getD k false&&B.getD k false)=andV E B N (k+1):=by
 unfold andV;rw[zmx];apply zdc;intro q hq;by_cases h:q=k
 ·subst h;simp
 ·by_cases h2:q<k
  ·rw[yf0 h,yf1 h2,yf1 (by omega)]
  ·rw[yf0 h,yf0 h2,yf0 (by omega)]
def g4S(N:Nat)(E B:List Bool)(k:Nat):St :=
 mkSt [(3,.own 11 0 0 N),(4,.own 15 0 0 N),(56,.p (.int .i64 N)),(57,.p (.int .i64 k))] [(11,⟨1,avs E⟩),(15,⟨1,avs B⟩)]
noncomputable def usV(A:GAuto)(N:Nat):List Bool:=andV (endV A N) (begV A N) N N
theorem z2s(A:GAuto)(N:Nat):(endV A N).length=N:=zbf _ _
theorem z67{N:Nat}(hN:N<=64){E B:List Bool}(hE:E.length=N)(hB:B.length=N){Q:Exit->St->Prop}{ks:List Kt}{st:St}(hw:Weak st (g4S N (andV E B N 0) B 0))
  (hx:zb6 P 75 Q (zaw 6 ks) 6 (g4S N (andV E B N N) B N)):vL P 75 Q g.m8 ks st:=by
 refine zaj (S:=fun k:Nat=>g4S N (andV E B N k) B k) (I:=fun k=>k<=N) (m:=fun k=>N - k) 0 hw (by omega) ?_;rintro k hk R hn hr hx';have e1:=i64s k;by_cases hlt:k<N
 ·have hlen:=zc3 E B N k;have hg:=z3w (E:=E) (B:=B) hlt;have hs:=z3v E B hlt;have hkB:k<B.length:=by omega
  have gB:B.getD k false=B[k]:=by rw[yfj,yfm hkB];rfl
  have hend:∀ st',Weak st' (g4S N (andV E B N (k+1)) B (k+1))->R .normal st':=fun st' h=>hn (k+1) st' h (by omega) (by omega);rw[<- hs]at hend;rw[gB]at hend;generalize andV E B N k=U at *
  generalize E.getD k false=b at *
  have hkU:k<U.length:=by omega
  have hU:U[k]=b:=by rw[<- hg,yfj,yfm hkU];rfl
  simp[g.m8,g4S,mkSt,hlt];refine⟨by omega,zad hkU ?_⟩;rw[hU];cases b with
  | false =>
   simp only[Bool.false_and]at hend;simp[e1,hlt];refine⟨by omega,zad hkU ?_⟩;rw[zuv];exact hend _ (Weak.to [3,4,56,57] [((11,0),11),((15,0),15)] (by simp[g4S,mkSt]))
  | true =>
   simp only[yhp]at hend;simp[e1,hlt];refine⟨by omega,zad hkB ?_⟩;refine⟨by omega,zad hkU ?_⟩;rw[zuv];exact hend _ (Weak.to [3,4,56,57] [((11,0),11),((15,0),15)] (by simp[g4S,mkSt]))
 ·have:k=N:=by omega
  subst this;simp[g.m8,g4S,mkSt];exact hx' _ _ (by simpa[g4S,mkSt]using hx)
theorem zpc{A:GAuto}{N:Nat}(hA:CtrOk A N)(hil:A.ini.length=N)(hism:∀ w∈A.ini,w.sm 1048576):Sp P F.jc [enc (zas A)] (.fresh 1 (ens (usV A N))):=by
 have hN:=hA.N1;have hst:(zas A).a.st=(N:Int):=hA.inN.st;have hva:(zas A).a=A:=rfl;have hal:=hA.al;have hr:∀ x∈A.arcs,(0<=x.f/\x.f<(N:Int))/\0<=x.t/\x.t<(N:Int):=fun x hx=>⟨hA.inN.f x hx,hA.t x hx⟩;have hd:∀ x∈A.arcs,tT x<N:=fun x hx=>by have:=hr x hx;unfold tT;omega
 have hen:=z2r hA;have hel:=z2s A N;refine Sp.vz c.jc fun _=>?_;simp[g.jc];refine zc8 hen (by simp) ⟨by simp[ens],by omega,by simp[-zat,ens,LIM,hel];omega⟩ _ rfl ?_;simp[hst,hel];refine⟨by omega,?_⟩;refine zaj (S:=fun k:Nat=>g1S A N k) (I:=fun k=>k<=N) (m:=fun k=>N - k) 0 (Weak.to [1,3,4,17,18] [((1,0),1),((11,0),11),((15,0),15)] ?_) (by omega) ?_
 ·have:ini0 A N 0=List.replicate N false:=by unfold ini0;rw[<- zj1];apply zdc;intro q _;simp
  simp[g1S,mkSt,this,hst]
 rintro k hk R hn hr' hx;have e1:=i64s k;by_cases hlt:k<N
 ·have hki:k<(zas A).a.ini.length:=by show k<A.ini.length;omega
  have hset:=z2d A hlt;have hg:A.ini.getD k A.ring.zero=A.ini[k]'(by omega):=by rw[yfj,yfm (by omega)];rfl
  have hes:=zqz (zas A) k hki hism;have hdec:decide ((zas A).a.ini[k]≠(zas A).a.ring.zero)=decide (A.ini.getD k A.ring.zero≠A.ring.zero):=by rw[hg];rfl
  rw[hdec]at hes;have hfl:=zol A N k;have hend:∀ st',Weak st' (g1S A N (k+1))->R .normal st':=fun st' h=>hn (k+1) st' h (by omega) (by omega);unfold g1S at hend ⊢;rw[<- hset]at hend;generalize ini0 A N k=u at *
  generalize decide (A.ini.getD k A.ring.zero≠A.ring.zero)=b at *
  simp[g.n9,mkSt,hlt];refine zaf hes ?_;simp[hlt,e1,hfl];refine zad (by omega) ?_;rw[zuv];exact hend _ (Weak.to [1,3,4,17,18] [((1,0),1),((11,0),11),((15,0),15)] (by simp[mkSt]))
 ·have:k=N:=by omega
  subst this;have h00:∀ q,q<k->begP A k q->(ini0 A k k).getD q false=true:=fun q hq h=>by rw[ztx hq,yf1 hq];exact decide_eq_true h.2
  have h01:∀ q,(ini0 A k k).getD q false=true->Mk fT tT A.arcs (begP A k) q:=fun q h=>by
   by_cases hq:q<k
   ·rw[ztx hq,yf1 hq]at h;exact .base ⟨hq,of_decide_eq_true h⟩
   ·rw[yfj,yi3 (by rw[zol];omega)]at h;cases h
  have hfl:=zol A k k;simp[g.n9,g1S,mkSt];refine hx _ _ ?_;generalize ini0 A k k=u0 at *
  simp
  refine zaj (S:=fun s:List Bool × Bool=>g3S A k s) (I:=fun s=>s.1.length=k/\(∀ q,q<k->begP A k q->s.1.getD q false=true)/\(∀ q,s.1.getD q false=true->Mk fT tT A.arcs (begP A k) q)/\(s.2=false->∀ x∈A.arcs,s.1.getD (fT x) false=true->s.1.getD (tT x) false=true))
   (m:=fun s=>2*cfB s.1+s.2.toNat) (u0,true) (Weak.to [1,3,4,6] [((1,0),1),((11,0),11),((15,0),15)] (by simp[g3S,mkSt])) ⟨hfl,h00,h01,fun h=>by cases h⟩ ?_
  rintro⟨u,b⟩ ⟨u1,u2,u3,u4⟩ R2 hn2 hr2 hx2;simp only at u1 u2 u3 u4;cases b with
  | false =>
   have he:=z4e u1 u2 (fun q h=>h.1) u3 (u4 rfl);have hbv:begV A k=u:=he.symm;have ha0:andV (endV A k) u k 0=endV A k:=by refine yhq (by rw[zc3,hel]) fun i h1 h2=>?_;have:=zc3 (endV A k) u k 0;simp only[andV,zeh,yjj,yf9];rw[yfj,yfm h2];rfl
   have hus:usV A k=andV (endV A k) u k k:=by unfold usV;rw[hbv]
   have hul:=zc3 (endV A k) u k k;simp[g.od,g3S,mkSt];refine hx2 _ _ ?_;simp[hel];refine z67 hN hel u1 (Weak.to [3,4,56,57] [((11,0),11),((15,0),15)] (by simp[g4S,mkSt,ha0])) ?_;rw[hus];generalize andV (endV A k) u k k=U at *
   simp[g4S,mkSt,hul]
  | true =>
   simp[g.od,g3S,mkSt];refine z68 (v:=zas A) (A:=A.arcs) (N:=k) (E:=endV A k) hr (by omega) u1 (Weak.to [1,3,4,6,31,32,33] [((1,0),1),((11,0),11),((15,0),15)] (by simp[g2S,mkSt,hva])) ?_;obtain⟨p1,p2,p3⟩:=zn2 (src:=fT) (dst:=tT) (A:=A.arcs) u1 hd A.arcs.length (yf8 _);have p4:=zil (src:=fT) (dst:=tT) (A:=A.arcs) u1 hd (P:=Mk fT tT A.arcs (begP A k)) (fun x hx h=>.step hx h) u3 A.arcs.length (yf8 _);have p5:=zee fT tT A.arcs u A.arcs.length;generalize pasU fT tT A.arcs u A.arcs.length=s at *
   simp[g2S,mkSt];refine hn2 s _ (Weak.to [1,3,4,6] [((1,0),1),((11,0),11),((15,0),15)] (by simp[g3S,mkSt])) ⟨by omega,fun q hq h=>p1 q (u2 q hq h),p4,fun hb x hx h=>?_⟩ ?_
   ·obtain⟨q1,q2⟩:=p2 hb;obtain⟨j,hj,rfl⟩:=yjp.1 hx;rw[q1]at h ⊢;exact q2 j hj hj h
   ·obtain⟨w,b⟩:=s;cases b with
    | false=>obtain⟨rfl,_⟩:=p2 rfl;simp
    | true=>have:=p3 rfl;simp only[Bool.toNat_true]at this ⊢;omega
end Go.Ab
namespace Go.Ab
def zer:List Int->Nat
 | []=>0
 | x::l=>(if x=0 then 1 else 0)+zer l
section
variable {adj:Nat->List Nat} {N:Nat} (hN:∀ q,q<N->∀ y∈adj q,y<N)
inductive Tc (R:Nat->Nat->Prop):Nat->Nat->Prop
 | one {x y:Nat}:R x y->Tc R x y
 | more {x y z:Nat}:Tc R x y->R y z->Tc R x z
def Ad(adj:Nat->List Nat)(x y:Nat):Prop:=y∈adj x
structure Dst (adj:Nat->List Nat) (N:Nat) (s s':List Int):Prop where
 len:s'.length=N
 rng:∀ q,s'.getD q 0=0\/s'.getD q 0=1\/s'.getD q 0=2
 le:zer s'<=zer s
 grey:∀ q,s'.getD q 0=1 ↔ s.getD q 0=1
 blk:∀ q,s.getD q 0=2->s'.getD q 0=2
 acc:∀ q,s'.getD q 0=2->Acc (fun y x=>Ad adj x y) q
theorem Dst.trans{s s' s2:List Int}(h:Dst adj N s s')(k:Dst adj N s' s2):Dst adj N s s2 :=
 ⟨k.len,k.rng,yf7 k.le h.le,fun q=>(k.grey q).trans (h.grey q),fun q hq=>k.blk q (h.blk q hq),k.acc⟩
structure Din (adj:Nat->List Nat) (N:Nat) (s:List Int):Prop where
 len:s.length=N
 rng:∀ q,s.getD q 0=0\/s.getD q 0=1\/s.getD q 0=2
 acc:∀ q,s.getD q 0=2->Acc (fun y x=>Ad adj x y) q
end
theorem Tc.trans{R:Nat->Nat->Prop}{x y z:Nat}(h:Tc R x y)(k:Tc R y z):Tc R x z:=by
 induction k with
 | one k=>exact .more h k
 | more _ k ih=>exact .more ih k
section
variable {R:Nat->Nat->Prop}
end
section
variable {A:GAuto} {N:Nat} (hA:CtrOk A N)
include hA
end
section
variable {A:GAuto} {N:Nat} (hA:CtrOk A N) (hil:A.ini.length=N) (hb:begC A N<=1)
include hA hil hb
end
end Go.Ab
namespace Go.Ab
open Enc (enc)
attribute [local simp] zai Opd.slots
abbrev ksF:List Nat:=[900000,900001,900002,900003,900004,900005]
end Go.Ab
namespace Go.Ab
structure Sx where
 s:List Bool
 f:List Nat
 r:Bool
abbrev Grp:=List Int × List Nat
section
variable (goal:Nat->Bool) (nxt:Nat->Nat->List Nat)
def Sx.vis(x:Sx)(n:Nat):Sx :=
 if x.s.getD n true=true then x else⟨x.s.set n true,x.f++[n],x.r||goal n⟩
def Sx.vs(x:Sx)(l:List Nat):Sx:=l.foldl (Sx.vis goal) x
def Sx.nx(l:Nat)(x:Sx)(g:List Nat):Sx:=g.foldl (fun x n=>x.vs goal (nxt n l)) x
def zno(w:List Int)(g:List Nat):List Nat->List Grp->List Bool->Option (List Int) × List Grp × List Bool
 | [],q,s=>(none,q,s)
 | l::ls,q,s =>
  if (Sx.nx goal nxt l ⟨s,[],false⟩ g).f=[]then zno w g ls q (Sx.nx goal nxt l ⟨s,[],false⟩ g).s
  else if (Sx.nx goal nxt l ⟨s,[],false⟩ g).r=true then(some (w++[(l:Int)]),q,(Sx.nx goal nxt l ⟨s,[],false⟩ g).s)
  else zno w g ls (q++[(w++[(l:Int)],(Sx.nx goal nxt l ⟨s,[],false⟩ g).f)]) (Sx.nx goal nxt l ⟨s,[],false⟩ g).s
def labs(sy:Nat):List Nat:=(List.range sy).map (· + 1)
def sxQ(sy:Nat):Nat->List Grp->List Bool->Option (List Int)
 | 0,_,_=>none
 | _+1,[],_=>none
 | n+1,g::q,s=>match zno goal nxt g.1 g.2 (labs sy) q s with
  | (some v,_,_)=>some v
  | (none,q,s)=>sxQ sy n q s
def sx(sy size:Nat)(beg:List Nat):Option (List Int) :=
 if (Sx.vs goal ⟨List.replicate size false,[],false⟩ beg).r=true then some []
 else sxQ goal nxt sy (size+2) [([],(Sx.vs goal ⟨List.replicate size false,[],false⟩ beg).f)] (Sx.vs goal ⟨List.replicate size false,[],false⟩ beg).s
end
def mkd(s:List Bool)(m:Nat):Prop:=s.getD m true=true
def us(s:List Bool):Nat:=s.count false
theorem z6p(s:List Bool)(n m:Nat):mkd (s.set n true) m ↔ mkd s m\/m=n:=by
 unfold mkd;rw[yfj,yfj,yk0];by_cases h:n=m
 ·subst h;simp only[yf2];split<;>simp
 ·simp only[yf0 h];constructor
  ·exact .inl
  ·rintro(h1|h1)
   ·exact h1
   ·exact absurd h1.symm h
theorem z32:∀ (s:List Bool) (n:Nat),¬ mkd s n->us (s.set n true)+1=us s
 | [],n,h=>absurd (by simp[mkd]) h
 | b::s,0,h=>by
  cases b with
  | true=>exact absurd (by simp[mkd]) h
  | false=>simp[us]
 | b::s,n+1,h=>by
  have:=z32 s n (by simpa[mkd]using h);simp only[us,List.set_cons_succ,List.count_cons]at *
  omega
section
variable {goal:Nat->Bool} {nxt:Nat->Nat->List Nat}
theorem z8w(x:Sx)(n m:Nat):mkd (x.vis goal n).s m ↔ mkd x.s m\/m=n:=by
 unfold Sx.vis;split
 ·rename_i h;constructor
  ·exact .inl
  ·rintro(h1|rfl)
   ·exact h1
   ·exact h
 ·exact z6p _ _ _
theorem yc8(x:Sx)(n m:Nat):m∈(x.vis goal n).f ↔ m∈x.f\/(m=n/\¬ mkd x.s n):=by
 unfold Sx.vis;split
 ·rename_i h;constructor
  ·exact .inl
  ·rintro(h1|⟨_,h1⟩)
   ·exact h1
   ·exact absurd h h1
 ·rename_i h;rw[yfk,ygj];constructor
  ·rintro(h1|h1)
   ·exact .inl h1
   ·exact .inr ⟨h1,h⟩
  ·rintro(h1|⟨h1,_⟩)
   ·exact .inl h1
   ·exact .inr h1
theorem zv6(x:Sx)(n:Nat):(x.vis goal n).s.length=x.s.length:=by
 unfold Sx.vis;split
 ·rfl
 ·simp
theorem z30(x:Sx)(n:Nat):us (x.vis goal n).s+(x.vis goal n).f.length=us x.s+x.f.length:=by
 unfold Sx.vis;split
 ·rfl
 ·rename_i h;have:=z32 x.s n h;simp only[ygi,yhe];omega
theorem yc7(x:Sx)(n:Nat)(h:x.r=x.f.any goal):(x.vis goal n).r=(x.vis goal n).f.any goal:=by
 unfold Sx.vis;split
 ·exact h
 ·simp[h]
theorem znh(x:Sx)(n:Nat)(l:List Nat):x.vs goal (n::l)=(x.vis goal n).vs goal l:=rfl
theorem z8q:∀ (l:List Nat) (x:Sx),(x.vs goal l).s.length=x.s.length
 | [],_=>rfl
 | n::l,x=>by rw[znh,z8q l,zv6]
theorem z41:∀ (l:List Nat) (x:Sx),us (x.vs goal l).s+(x.vs goal l).f.length=us x.s+x.f.length
 | [],_=>rfl
 | n::l,x=>by rw[znh,z41 l,z30]
theorem vs_r:∀ (l:List Nat) (x:Sx),x.r=x.f.any goal->(x.vs goal l).r=(x.vs goal l).f.any goal
 | [],_,h=>h
 | n::l,x,h=>by rw[znh];exact vs_r l _ (yc7 x n h)
theorem vs_f:∀ (l:List Nat) (x:Sx) (m:Nat),m∈(x.vs goal l).f->m∈x.f\/(m∈l/\¬ mkd x.s m)
 | [],x,m,h=>.inl h
 | n::l,x,m,h=>by
  rw[znh]at h;rcases vs_f l _ m h with h|⟨h,h2⟩
  ·rcases(yc8 x n m).1 h with h|⟨rfl,h⟩
   ·exact .inl h
   ·exact .inr ⟨yip,h⟩
  ·exact .inr ⟨ygk _ h,fun h3=>h2 ((z8w x n m).2 (.inl h3))⟩
theorem z6h(l:Nat)(x:Sx)(n:Nat)(g:List Nat):Sx.nx goal nxt l x (n::g)=Sx.nx goal nxt l (x.vs goal (nxt n l)) g:=rfl
theorem z9y(l:Nat):∀ (g:List Nat) (x:Sx),Sx.nx goal nxt l x g=x.vs goal (g.flatMap fun n=>nxt n l)
 | [],_=>rfl
 | n::g,x=>by rw[z6h,z9y l g];simp[Sx.vs,yft,yh5]
inductive Ld (nxt:Nat->Nat->List Nat) (sy:Nat) (beg:List Nat):List Int->Nat->Prop
 | nil {n:Nat} (h:n∈beg):Ld nxt sy beg [] n
 | snoc {w:List Int} {m l n:Nat} (h:Ld nxt sy beg w m) (h1:1<=l) (h2:l<=sy) (h3:n∈nxt m l):Ld nxt sy beg (w++[(l:Int)]) n
theorem z48(s:List Bool):us s<=s.length:=List.count_le_length
end
end Go.Ab
