/- Lemmas for the law AmbiguityOfDeterministic, part 31. No conditions. -/
import Derived.Test.YtcemegnnejaahaaGreatDoorAP30
set_option maxRecDepth 100000
set_option maxHeartbeats 4000000
set_option linter.all false
namespace Go.Ab
open Enc (enc)
theorem z0u(k n:Int)(h:0<n):(if k.tmod n<0 then k.tmod n+n else k.tmod n)=k % n:=by
 have h1:=Int.tmod_eq_emod (a:=k) (b:=n);have h2:=Int.emod_nonneg k (show n≠0 by omega);have h3:=yrd k h;rw[h1];have h4:(n.natAbs:Int)=n:=by omega
 split<;>split<;>omega
def nx(label:Int)(w:List Int)(a:Nat):Int:=if label=0 then a else if w[a]?=some label then a+1 else -1
end Go.Ab
namespace Go.Ab
open Enc (enc)
attribute [local simp] zaj Opd.slots
def wthn(v m:Int):Int:=if m<1 then 0 else v % m
theorem zck(v:Int){m:Int}(h:1<=m):0<=wthn v m/\wthn v m<m:=by unfold wthn;rw[yl9 (by omega)];exact⟨Int.emod_nonneg v (by omega),yrd v (by omega)⟩
theorem zeh(v m:Int)(hm:m<=1000000):Sp P F.ar [.int .i64 v,.int .i64 m] (.pure (.int .i64 (wthn v m))):=by
 refine Sp.vz c.ar fun _=>?_;unfold wthn;by_cases h:m<1
 ·simp[g.ar,h]
 ·have h1:=z0u v m (by omega);have h2:=Int.emod_nonneg v (show m≠0 by omega);have h3:=yrd v (show 0<m by omega);simp[g.ar,h];refine⟨by omega,fun h4=>?_,fun h4=>?_⟩
  ·rw[ym0 h4]at h1;rw[h1,i64w (by omega) (by omega)]
  ·rw[yl9 (by omega)]at h1;exact h1
def tk(L:List Int)(at_:Nat)(m:Int):Int:=if at_<L.length then wthn (L.getD at_ 0) m else 0
def tn(L:List Int)(at_:Nat):Nat:=if at_<L.length then at_+1 else at_
theorem zry(L:List Int)(at_:Nat){m:Int}(h:1<=m):0<=tk L at_ m/\tk L at_ m<m:=by
 unfold tk;split
 ·exact zck _ h
 ·omega
theorem zjn{L:List Int}{at_:Nat}(h:at_<=L.length):tn L at_<=L.length:=by unfold tn;split<;>omega
def hpT(L:List Int)(at_:Nat):List Site:=[(900003,[some ⟨2,[.p (.agg [.sl (ens L),.int .i64 at_])]⟩])]
theorem zrx(L:List Int)(at_:Nat)(m:Int)(hm:m<=1000000)(hat:at_<=L.length)(hL:L.length<=9223372036854775807) :
  HSp P F.ah [.ptr 900003 0 0 0,.p (.int .i64 m)] (hpT L at_) (.p (.int .i64 (tk L at_ m))) (hpT L (tn L at_)):=by
 refine HSp.of_mr c.ah (by simp) (by simp[hpT,PINB]) (by simp[hpT]) ?_ fun A0 hA0=>MR.of_vm ?_
 ·simp[hpT,zda,hpOk,zig,zax]
 simp[g.ah,zbb,hpT];unfold tk tn;refine⟨fun h=>?_,fun h=>?_⟩
 ·have h1:¬ at_<L.length:=by omega
  rw[yl9 h1,yl9 h1];refine⟨.inl rfl,_,Weak.refl _,_,rfl,?_,?_⟩
  ·simp
  ·simp[zbk,St.site,look]
 ·have h1:at_<L.length:=by omega
  have e1:=i64s at_;have e2:IntKind.i64.wrap (((at_+1:Nat):Int) - 1)=(at_:Int):=by rw[i64w (by omega) (by omega)];omega
  rw[ym0 h1,ym0 h1];simp[e1];have e3:IntKind.i64.wrap (at_:Int)=(at_:Int):=i64w (by omega) (by omega);rw[e3,yno];refine zae h1 ⟨by omega,?_⟩;have hg:L.getD at_ 0=L[at_]:=by rw[ym8,yma h1];rfl
  refine zab (zeh L[at_] m hm) ?_;simp;refine⟨.inl rfl,_,Weak.refl _,_,rfl,?_,?_⟩
  ·simp[h1]
  ·simp[zbk,St.site,look]
theorem zrh{e:Nat}{L:List Int}{at_:Nat}{m:Int}{st:St}{K:PCall->AV->St->Prop}(hm:m<=1000000)(hat:at_<=L.length)(hL:L.length<=9223372036854775807)(hk:zbk st (hpT L at_) (hpT L at_))
  (k:∀ c,K c (.p (.int .i64 (tk L at_ m))) ⟨st.sl,hpT L (tn L at_)++st.hp⟩):zhx P st e F.ah [.ptr 900003 0 0 0,.p (.int .i64 m)] K:=by
 refine zcs (zrx L at_ m hm hat hL) (by simp[zcf]) hk rfl ?_ (k _);simp[hpT,zda,hpOk,zig,zax,zen]
def wtT(L:List Int)(at_:Nat):GW:=if tk L at_ 8=0 then .mk gr0 0 true 0 [] []else .mk gr0 (tk L (tn L at_) 6) false 0 [] []
def wnT(L:List Int)(at_:Nat):Nat:=if tk L at_ 8=0 then tn L at_ else tn L (tn L at_)
theorem ye8{L:List Int}{at_:Nat}(h:at_<=L.length):wnT L at_<=L.length:=by
 unfold wnT;split
 ·exact zjn h
 ·exact zjn (zjn h)
theorem ztv(L:List Int)(at_:Nat)(hat:at_<=L.length)(hL:L.length<=9223372036854775807) :
  HSp P F.d7 [.p (.int .i64 2),.ptr 900003 0 0 0] (hpT L at_) (.p (enc (wtT L at_))) (hpT L (wnT L at_)):=by
 refine HSp.of_mr c.d7 (by simp) (by simp[hpT,PINB]) (by simp[hpT]) ?_ fun A0 hA0=>MR.of_vm ?_
 ·simp[hpT,zda,hpOk,zig,zax]
 have h2:=zjn hat;unfold wtT wnT;simp[g.d7,zbb,hpT];refine zrh (by omega) hat hL (by simp[zbk,St.site,look,hpT]) fun _=>?_;simp[hpT];refine⟨fun h=>?_,fun h=>?_⟩
 ·simp only[h,ym2];refine⟨.inl rfl,_,Weak.freezeTo (s:=4) (g:=0) (n:=2) [enc (GW.mk gr0 0 true 0 [] [])] [] rfl (by simp[gr0]) (by simp) (by simp),_,rfl,?_,?_⟩
  ·simp[gr0]
  ·simp[zbk,St.site,look,killAll,St.setObj]
 ·simp only[h,ymb];refine zrh (by omega) h2 hL (by simp[zbk,St.site,look,hpT]) fun _=>?_;simp[hpT];refine⟨.inl rfl,_,Weak.freezeTo (s:=4) (g:=0) (n:=2) [enc (GW.mk gr0 (tk L (tn L at_) 6) false 0 [] [])] [] rfl (by simp[gr0]) (by simp) (by simp),_,rfl,?_,?_⟩
  ·simp[gr0]
  ·simp[zbk,St.site,look,killAll,St.setObj]
structure GPlan where
 st:Int
 sy:Int
 fw:Bool
 sg:Bool
 L:List Int
instance:Enc GPlan:=⟨fun x=>.agg [.int .i64 x.st,.int .i64 x.sy,.bool x.fw,.bool x.sg,.sl (ens x.L)],5,by decide,fun _=>rfl⟩
@[simp] theorem z8x(x:GPlan):enc x=.agg [.int .i64 x.st,.int .i64 x.sy,.bool x.fw,.bool x.sg,.sl (ens x.L)]:=rfl
@[simp] theorem yev:Enc.sz GPlan=5:=rfl
structure WKd where
 k:Int
 wt:List Int->Nat->GW
 wn:List Int->Nat->Nat
def WKd.r(W:WKd):GRing:=⟨W.k,[]⟩
structure WKd.good (W:WKd):Prop where
 le:∀ L at_,at_<=L.length->W.wn L at_<=L.length
 sp:∀ L at_,at_<=L.length->L.length<=9223372036854775807->HSp P F.d7 [.p (.int .i64 W.k),.ptr 900003 0 0 0] (hpT L at_) (.p (enc (W.wt L at_))) (hpT L (W.wn L at_))
def wkT:WKd:=⟨2,wtT,wnT⟩
theorem zk5:wkT.good:=⟨fun _ _ h=>ye8 h,fun L at_ h hL=>ztv L at_ h hL⟩
def pA(W:WKd)(L:List Int):Nat->Nat
 | 0=>0
 | s+1=>tn L (tn L (W.wn L (W.wn L (pA W L s))))
theorem ycv{W:WKd}(hW:W.good)(L:List Int):∀ s,pA W L s<=L.length
 | 0=>yn0 _
 | s+1=>zjn (zjn (hW.le _ _ (hW.le _ _ (ycv hW L s))))
def iE(W:WKd)(p:GPlan)(s:Nat):GW:=if (tk p.L (W.wn p.L (W.wn p.L (pA W p.L s))) 2=0\/p.sg=true)/\0<s then W.r.zero else W.wt p.L (pA W p.L s)
def fE(W:WKd)(p:GPlan)(N s:Nat):GW:=if tk p.L (tn p.L (W.wn p.L (W.wn p.L (pA W p.L s)))) 2=0/\s+1<N then W.r.zero else W.wt p.L (W.wn p.L (pA W p.L s))
def z7:AV:=.agg [.p (.int .i64 0),.nil,.p (.int .i64 0),.p (.int .i64 0),.nil,.nil,.nil]
def q1S(W:WKd)(p:GPlan)(sy:Int)(N k:Nat):St :=
 ⟨[(1,.p (.int .i64 W.k)),(3,.ptr 3 0 0 0),(6,.ptr 6 0 0 0),(7,.ptr 900003 0 0 0),(8,.ptr 8 0 0 0),(9,.p (.int .i64 k))],
  hpT p.L (pA W p.L k)++[(3,[some ⟨5,[.p (enc p)]⟩]),(6,[some ⟨7,[z7]⟩]),(8,[some ⟨7,[.agg [.p (.int .i64 W.k),.nil,.p (.int .i64 sy),.p (.int .i64 N),.own 1 0 0 k,.own 2 0 0 k,.nil]]⟩]),(1,[some ⟨8,avs (mp k (iE W p))⟩]),(2,[some ⟨8,avs (mp k (fE W p N))⟩]),(DEAD,[none])]⟩
theorem ycc{W:WKd}(hW:W.good){p:GPlan}{sy:Int}{N:Nat}(hN:N<=64)(hL:p.L.length<=9223372036854775807){Q:Exit->St->Prop}{ks:List Kt}{st:St}(hw:Weak st (q1S W p sy N 0))(hx:zb8 P 185 Q (zay 0 ks) 0 (q1S W p sy N N)):vL P 185 Q g.qo ks st:=by
 refine zag (S:=fun k:Nat=>q1S W p sy N k) (I:=fun k=>k<=N) (m:=fun k=>N - k) 0 hw (by omega) ?_;rintro k hk R hn' hr hx';have e1:=i64s k;have e2:IntKind.i64.wrap ((N:Int) - 1)=(N:Int) - 1:=i64w (by omega) (by omega);have a0:=ycv hW p.L k;have a1:=hW.le _ _ a0;have a2:=hW.le _ _ a1;have a3:=zjn a2;simp[g.qo,q1S,hpT,z7];refine⟨fun hlt=>?_,fun hge=>?_⟩
 ·have hw1:=hW.sp p.L (pA W p.L k) a0 hL;have hw2:=hW.sp p.L (W.wn p.L (pA W p.L k)) a1 hL;have hi:mp (k+1) (iE W p)=mp k (iE W p)++[iE W p k]:=z3i k _;have hf:mp (k+1) (fE W p N)=mp k (fE W p N)++[fE W p N k]:=z3i k _;have hik:iE W p k=if (tk p.L (W.wn p.L (W.wn p.L (pA W p.L k))) 2=0\/p.sg=true)/\0<k then W.r.zero else W.wt p.L (pA W p.L k):=rfl
  have hfk:fE W p N k=if tk p.L (tn p.L (W.wn p.L (W.wn p.L (pA W p.L k)))) 2=0/\k+1<N then W.r.zero else W.wt p.L (W.wn p.L (pA W p.L k)):=rfl
  have hpk:pA W p.L (k+1)=tn p.L (tn p.L (W.wn p.L (W.wn p.L (pA W p.L k)))):=rfl;refine zcs hw1 (by simp[zcf]) (by simp[zbk,St.site,look,hpT]) rfl (by simp[hpT,zda,hpOk,zig,zax,zen]) ?_;simp[zcx,hpT];refine zcs hw2 (by simp[zcf]) (by simp[zbk,St.site,look,hpT]) rfl (by simp[hpT,zda,hpOk,zig,zax,zen]) ?_;simp[zcx,hpT];refine zrh (by omega) a2 hL (by simp[zbk,St.site,look,hpT]) fun _=>?_;generalize pA W p.L k=at0 at *
  generalize W.wt p.L at0=x at *
  generalize W.wt p.L (W.wn p.L at0)=y at *
  generalize W.wn p.L (W.wn p.L at0)=at2 at *
  have hz:[AV.p (.int .i64 W.k),AV.nil]=[.p (.int .i64 W.k),.nil]:=rfl;have hzero:=zk4 W.r;generalize hie:iE W p k=xe at *
  generalize hfe:fE W p N k=ye at *
  by_cases c0:tk p.L at2 2=0
  all_goals by_cases ck:0<k
  all_goals cases hsg:p.sg
  all_goals simp[c0,ck,hsg]at hik
  all_goals simp[hpT,c0,ck,hsg]
  all_goals first|(refine zaa hzero (by simp[WKd.r]) ?_;simp)|skip
  all_goals rw[<- hik]
  all_goals refine zrh (by omega) a3 hL (by simp[zbk,St.site,look,hpT]) fun _=>?_
  all_goals by_cases c3:tk p.L (tn p.L at2) 2=0
  all_goals by_cases c4:k+1<N
  all_goals simp[c3,c4]at hfk
  all_goals have c5:((k:Int)<(N:Int) - 1)=(k+1<N):=by rw[eq_iff_iff];omega
  all_goals simp[hpT,c3,e2,c5,c4]
  all_goals first|(refine zaa hzero (by simp[WKd.r]) ?_;simp)|skip
  all_goals rw[<- hfk]
  all_goals simp[zbr,e1]
  all_goals refine⟨by omega,hn' (k+1) _ (Weak.toF [1,3,6,7,8,9] [900003] [((3,0),3),((6,0),6),((8,0),8),((79,0),1),((84,0),2)] ?_) (by omega) (by omega)⟩
  all_goals simp[q1S,hpT,z7,hi,hf,hpk,hsg]
 ·have:k=N:=by omega
  subst this;exact hx' _ _ (by simpa[q1S,hpT,z7]using hx)
def thB(arcs:List GArc)(x:GArc)(k:Nat):Bool:=(arcs.take k).any fun a=>decide (a.f=x.f)&&decide (a.l=x.l)
theorem z6h(arcs:List GArc)(x:GArc){k:Nat}(h:k<arcs.length):thB arcs x (k+1)=(thB arcs x k||(decide (arcs[k].f=x.f)&&decide (arcs[k].l=x.l))):=by unfold thB;rw[ymg h,List.any_append];simp
def q2S(W:WKd)(p:GPlan)(sy:Int)(N i at_:Nat)(ini fin:List GW)(arcs:List GArc)(x:GArc)(k:Nat):St :=
 ⟨[(1,.p (.int .i64 W.k)),(3,.ptr 3 0 0 0),(6,.ptr 6 0 0 0),(7,.ptr 900003 0 0 0),(8,.ptr 8 0 0 0),(12,.p (.int .i64 i)),(13,.ptr 13 0 0 0),(14,.p (.bool (thB arcs x k))),(15,.p (.int .i64 k))],
  hpT p.L at_++[(3,[some ⟨5,[.p (enc p)]⟩]),(6,[some ⟨7,[z7]⟩]),(8,[some ⟨7,[.agg [.p (.int .i64 W.k),.nil,.p (.int .i64 sy),.p (.int .i64 N),.own 1 0 0 N,.own 2 0 0 N,.own 5 0 0 arcs.length]]⟩]),(1,[some ⟨8,avs ini⟩]),(2,[some ⟨8,avs fin⟩]),(5,[some ⟨11,avs arcs⟩]),(13,[some ⟨11,[.p (enc x)]⟩]),(DEAD,[none])]⟩
theorem zuj{W:WKd}{p:GPlan}{sy:Int}{N i at_:Nat}{ini fin:List GW}{arcs:List GArc}{x:GArc}(hl:arcs.length<=1000){Q:Exit->St->Prop}{ks:List Kt}{st:St}(hw:Weak st (q2S W p sy N i at_ ini fin arcs x 0))(hx:zb8 P 185 Q (zay 4 ks) 4 (q2S W p sy N i at_ ini fin arcs x arcs.length)):vL P 185 Q g.pi ks st:=by
 refine zag (S:=fun k:Nat=>q2S W p sy N i at_ ini fin arcs x k) (I:=fun k=>k<=arcs.length) (m:=fun k=>arcs.length - k) 0 hw (by omega) ?_;rintro k hk R hn' hr hx';have e1:=i64s k;by_cases hlt:k<arcs.length
 ·have hs:=z6h arcs x hlt;have hlt2:(k:Int)<(arcs.length:Int):=by omega
  simp[g.pi,q2S,hpT,z7,hlt2,hlt];cases ht:thB arcs x k with
  | true =>
   rw[ht]at hs;simp[e1,ht];refine hn' (k+1) _ (Weak.toF [1,3,6,7,8,12,13,14,15] [900003] [((3,0),3),((6,0),6),((8,0),8),((1,0),1),((2,0),2),((5,0),5),((13,0),13)] ?_) (by omega) (by omega);simp[q2S,hpT,z7,hs]
  | false =>
   rw[ht]at hs;simp[ht,hlt];refine zae hlt ?_;by_cases h1:arcs[k].f=x.f
   ·simp[h1,hlt];refine zae hlt ?_;by_cases h2:arcs[k].l=x.l
    all_goals
     simp[h1,h2]at hs;simp[e1,h2];refine hn' (k+1) _ (Weak.toF [1,3,6,7,8,12,13,14,15] [900003] [((3,0),3),((6,0),6),((8,0),8),((1,0),1),((2,0),2),((5,0),5),((13,0),13)] ?_) (by omega) (by omega);simp[q2S,hpT,z7,hs]
   ·simp[h1]at hs;simp[e1,h1];refine hn' (k+1) _ (Weak.toF [1,3,6,7,8,12,13,14,15] [900003] [((3,0),3),((6,0),6),((8,0),8),((1,0),1),((2,0),2),((5,0),5),((13,0),13)] ?_) (by omega) (by omega);simp[q2S,hpT,z7,hs]
 ·have:k=arcs.length:=by omega
  subst this;simp[g.pi,q2S,hpT,z7];exact hx' _ _ (by simpa[q2S,hpT,z7]using hx)
def arcP(W:WKd)(L:List Int)(at_:Nat)(N:Nat)(sy:Int):GArc:=⟨tk L at_ N,1+tk L (tn L at_) sy,tk L (tn L (tn L at_)) N,W.wt L (tn L (tn L (tn L at_)))⟩
def arN(W:WKd)(L:List Int)(at_:Nat):Nat:=W.wn L (tn L (tn L (tn L at_)))
def swA(fw:Bool)(x:GArc):GArc:=if fw=true/\x.t<x.f then⟨x.t,x.l,x.f,x.w⟩else x
def zm4(p:GPlan)(arcs:List GArc)(x:GArc):List GArc:=if p.fw=true/\x.f=x.t then arcs else if p.sg=true/\thB arcs (swA p.fw x) arcs.length=true then arcs else arcs++[swA p.fw x]
def zpu(W:WKd)(p:GPlan)(sy:Int)(N:Nat)(s:Nat × List GArc):Nat × List GArc :=
 if s.1<p.L.length/\0<N then(arN W p.L s.1,zm4 p s.2 (arcP W p.L s.1 N sy))else s
def a3(W:WKd)(p:GPlan)(sy:Int)(N:Nat)(at0:Nat):Nat->Nat × List GArc
 | 0=>(at0,[])
 | i+1=>zpu W p sy N (a3 W p sy N at0 i)
theorem z5w{W:WKd}{p:GPlan}{sy:Int}{N at0 i:Nat}(h:¬ ((a3 W p sy N at0 i).1<p.L.length/\0<N)):∀ k,a3 W p sy N at0 (i+k)=a3 W p sy N at0 i
 | 0=>rfl
 | k+1=>by show zpu W p sy N (a3 W p sy N at0 (i+k))=_;rw[z5w h k];unfold zpu;rw[yl9 h]
theorem z4b(p:GPlan)(arcs:List GArc)(x:GArc):(zm4 p arcs x).length<=arcs.length+1:=by
 unfold zm4;split
 ·omega
 ·split
  ·omega
  ·simp
theorem zys(W:WKd)(p:GPlan)(sy:Int)(N at0:Nat):∀ i,(a3 W p sy N at0 i).2.length<=i
 | 0=>by simp[a3]
 | i+1=>by
  have ih:=zys W p sy N at0 i;simp only[a3,zpu];split
  ·exact ym6 (z4b _ _ _) (by omega)
  ·omega
theorem yh9{W:WKd}(hW:W.good)(p:GPlan)(sy:Int)(N:Nat){at0:Nat}(h:at0<=p.L.length):∀ i,(a3 W p sy N at0 i).1<=p.L.length
 | 0=>h
 | i+1=>by
  have ih:=yh9 hW p sy N h i;simp only[a3,zpu];split
  ·exact hW.le _ _ (zjn (zjn (zjn ih)))
  ·exact ih
def q3S(W:WKd)(p:GPlan)(sy:Int)(N:Nat)(ini fin:List GW)(i:Nat)(s:Nat × List GArc):St :=
 ⟨[(1,.p (.int .i64 W.k)),(3,.ptr 3 0 0 0),(6,.ptr 6 0 0 0),(7,.ptr 900003 0 0 0),(8,.ptr 8 0 0 0),(12,.p (.int .i64 i))],
  hpT p.L s.1++[(3,[some ⟨5,[.p (enc p)]⟩]),(6,[some ⟨7,[z7]⟩]),(8,[some ⟨7,[.agg [.p (.int .i64 W.k),.nil,.p (.int .i64 sy),.p (.int .i64 N),.own 1 0 0 N,.own 2 0 0 N,.own 5 0 0 s.2.length]]⟩]),(1,[some ⟨8,avs ini⟩]),(2,[some ⟨8,avs fin⟩]),(5,[some ⟨11,avs s.2⟩]),(DEAD,[none])]⟩
theorem zrg{e:Nat}{L:List Int}{at_:Nat}{m:Int}{st:St}{K:PCall->AV->St->Prop}(hm:m<=1000000)(hat:at_<=L.length)(hL:L.length<=9223372036854775807)(hk:zbk st (hpT L at_) (hpT L at_))
  (k:K ⟨F.ah,[],.hsp [.ptr 900003 0 0 0,.p (.int .i64 m)] (hpT L at_) (.av (.p (.int .i64 (tk L at_ m)))) (hpT L (tn L at_)),none⟩ (.p (.int .i64 (tk L at_ m))) ⟨st.sl,hpT L (tn L at_)++st.hp⟩):zhx P st e F.ah [.ptr 900003 0 0 0,.p (.int .i64 m)] K:=by
 refine zcs (zrx L at_ m hm hat hL) (by simp[zcf]) hk rfl ?_ k;simp[hpT,zda,hpOk,zig,zax,zen]
theorem ycb{W:WKd}(hW:W.good){p:GPlan}{sy:Int}{N at0:Nat}{ini fin:List GW}(hN:N<=64)(hsy:1<=sy/\sy<=64)(hL:p.L.length<=9223372036854775807)(h0:at0<=p.L.length){Q:Exit->St->Prop}{ks:List Kt}{st:St}(hw:Weak st (q3S W p sy N ini fin 0 (at0,[])))
  (hx:∀ i,zb8 P 185 Q (zay 2 ks) 2 (q3S W p sy N ini fin i (a3 W p sy N at0 14))):vL P 185 Q g.qp ks st:=by
 refine zag (S:=fun i:Nat=>q3S W p sy N ini fin i (a3 W p sy N at0 i)) (I:=fun i=>i<=14) (m:=fun i=>14 - i) 0 hw (by omega) ?_;rintro i hi R hn' hr hx';have e1:=i64s i;have b0:=yh9 hW p sy N h0 i;have bl:=zys W p sy N at0 i;have hstay:=z5w (W:=W) (p:=p) (sy:=sy) (N:=N) (at0:=at0) (i:=i);have hsuc:a3 W p sy N at0 (i+1)=zpu W p sy N (a3 W p sy N at0 i):=rfl;generalize hs:a3 W p sy N at0 i=s at *
 obtain⟨at_,arcs⟩:=s;simp only at b0 bl hstay;simp[g.qp,q3S,hpT,z7];have hout:(¬ (at_<p.L.length/\0<N)\/¬ i<14)->zb8 P 185 Q (zay 2 ks) 2 (q3S W p sy N ini fin i (at_,arcs)):=fun h=>by
  have hh:=hx i;have:a3 W p sy N at0 14=(at_,arcs):=by
   by_cases hc:at_<p.L.length/\0<N
   ·have:i=14:=by omega
    rw[<- hs,this]
   ·have:=hstay hc (14 - i);rw[show i+(14 - i)=14 by omega]at this;exact this
  rw[this]at hh;exact hh
 have hexit:(¬ (at_<p.L.length/\0<N)\/¬ i<14)->R (.exit 2) (q3S W p sy N ini fin i (at_,arcs)):=fun h=>hx' _ _ (hout h);refine⟨fun h1=>⟨fun h2=>⟨fun h3=>?_,fun h3=>?_⟩,fun h2=>?_⟩,fun h1=>?_⟩;rotate_left
 ·simpa[q3S,hpT,z7]using hexit (.inl (by omega))
 ·simpa[q3S,hpT,z7]using hexit (.inr (by omega))
 ·simpa[q3S,hpT,z7]using hexit (.inl (by omega))
 have b1:=zjn b0;have b2:=zjn b1;have b3:=zjn b2;have hw1:=hW.sp p.L _ b3 hL;have hstep:a3 W p sy N at0 (i+1)=(arN W p.L at_,zm4 p arcs (arcP W p.L at_ N sy)):=by rw[hsuc];unfold zpu;rw[ym0 ⟨h1,h3⟩]
 have hend:∀ st',Weak st' (q3S W p sy N ini fin (i+1) (arN W p.L at_,zm4 p arcs (arcP W p.L at_ N sy)))->R .normal st':=fun st' h=>hn' (i+1) st' (by rw[hstep];exact h) (by omega) (by omega);have r1:=zry p.L (tn p.L at_) hsy.1;have e2:IntKind.i64.wrap (1+tk p.L (tn p.L at_) sy)=1+tk p.L (tn p.L at_) sy:=i64w (by omega) (by omega);refine zrg (by omega) b0 hL (by simp[zbk,St.site,look,hpT]) ?_;simp[hpT];refine zrg (by omega) b1 hL (by simp[zbk,St.site,look,hpT]) ?_;simp[hpT,e2];refine zrg (by omega) b2 hL (by simp[zbk,St.site,look,hpT]) ?_;simp[hpT];refine zcs hw1 (by simp[zcf]) (by simp[zbk,St.site,look,hpT]) rfl (by simp[hpT,zda,hpOk,zig,zax,zen]) ?_;simp[zcx,hpT];have hX:arcP W p.L at_ N sy=⟨tk p.L at_ N,1+tk p.L (tn p.L at_) sy,tk p.L (tn p.L (tn p.L at_)) N,W.wt p.L (tn p.L (tn p.L (tn p.L at_)))⟩:=rfl;have hM:arN W p.L at_=W.wn p.L (tn p.L (tn p.L (tn p.L at_))):=rfl;rw[<- hM];generalize arN W p.L at_=atn at *
 generalize W.wt p.L (tn p.L (tn p.L (tn p.L at_)))=ww at *
 generalize tk p.L at_ N=xf at *
 generalize tk p.L (tn p.L (tn p.L at_)) N=xt at *
 generalize 1+tk p.L (tn p.L at_) sy=xl at *
 generalize arcP W p.L at_ N sy=x at *
 subst hX;have hke0:zm4 p arcs (⟨xf,xl,xt,ww⟩:GArc)=if p.fw=true/\xf=xt then arcs else if p.sg=true/\thB arcs (swA p.fw (⟨xf,xl,xt,ww⟩:GArc)) arcs.length=true then arcs else arcs++[swA p.fw (⟨xf,xl,xt,ww⟩:GArc)]:=rfl
 have hsw:swA p.fw (⟨xf,xl,xt,ww⟩:GArc)=if p.fw=true/\xt<xf then(⟨xt,xl,xf,ww⟩:GArc)else(⟨xf,xl,xt,ww⟩:GArc):=rfl
 cases hfw:p.fw with
 | false =>
  simp;have hfn:¬ p.fw=true:=by rw[hfw];exact Bool.false_ne_true
  have hsy2:swA p.fw (⟨xf,xl,xt,ww⟩:GArc)=(⟨xf,xl,xt,ww⟩:GArc):=by rw[hsw,yl9 (show ¬ (p.fw=true/\xt<xf) from fun h=>hfn h.1)]
  have hke:=hke0;rw[yl9 (show ¬ (p.fw=true/\xf=xt) from fun h=>hfn h.1),hsy2]at hke;refine zuj (W:=W) (p:=p) (sy:=sy) (N:=N) (i:=i) (at_:=atn) (ini:=ini) (fin:=fin) (arcs:=arcs) (x:=(⟨xf,xl,xt,ww⟩:GArc)) (by omega) (Weak.toF [1,3,6,7,8,12,13,14,15] [900003] [((3,0),3),((6,0),6),((8,0),8),((1,0),1),((2,0),2),((5,0),5),((13,0),13)] ?_) ?_
  ·simp[q2S,hpT,z7,thB,hfw]
  simp[q2S,hpT,z7,hfw];cases hsg:p.sg with
  | true =>
   cases hth:thB arcs (⟨xf,xl,xt,ww⟩:GArc) arcs.length with
   | true =>
    simp[e1];rw[ym0 ⟨hsg,hth⟩]at hke;refine hend _ (Weak.toF [1,3,6,7,8,12] [900003] [((3,0),3),((6,0),6),((8,0),8),((1,0),1),((2,0),2),((5,0),5)] ?_);simp[q3S,hpT,z7,hfw,hsg,hke]
   | false =>
    simp[e1];rw[yl9 (fun h=>Bool.false_ne_true (hth.symm.trans h.2))]at hke;refine⟨by omega,hend _ (Weak.toF [1,3,6,7,8,12] [900003] [((3,0),3),((6,0),6),((8,0),8),((1,0),1),((2,0),2),((182,0),5)] ?_)⟩;simp[q3S,hpT,z7,hfw,hsg,hke]
  | false =>
   simp[e1];rw[yl9 (fun h=>Bool.false_ne_true (hsg.symm.trans h.1))]at hke;refine⟨by omega,hend _ (Weak.toF [1,3,6,7,8,12] [900003] [((3,0),3),((6,0),6),((8,0),8),((1,0),1),((2,0),2),((182,0),5)] ?_)⟩;simp[q3S,hpT,z7,hfw,hsg,hke]
 | true =>
  by_cases hft:xf=xt
  ·have hke:=hke0;rw[ym0 ⟨hfw,hft⟩]at hke;simp[e1,hft];refine hend _ (Weak.toF [1,3,6,7,8,12] [900003] [((3,0),3),((6,0),6),((8,0),8),((1,0),1),((2,0),2),((5,0),5)] ?_);simp[q3S,hpT,z7,hfw,hke]
  ·by_cases hlt:xt<xf
   ·have hsy2:swA p.fw (⟨xf,xl,xt,ww⟩:GArc)=(⟨xt,xl,xf,ww⟩:GArc):=by rw[hsw,ym0 ⟨hfw,hlt⟩]
    have hke:=hke0;rw[yl9 (show ¬ (p.fw=true/\xf=xt) from fun h=>hft h.2),hsy2]at hke;simp[hft,hlt];refine zuj (W:=W) (p:=p) (sy:=sy) (N:=N) (i:=i) (at_:=atn) (ini:=ini) (fin:=fin) (arcs:=arcs) (x:=(⟨xt,xl,xf,ww⟩:GArc)) (by omega) (Weak.toF [1,3,6,7,8,12,13,14,15] [900003] [((3,0),3),((6,0),6),((8,0),8),((1,0),1),((2,0),2),((5,0),5),((13,0),13)] ?_) ?_
    ·simp[q2S,hpT,z7,thB,hfw]
    simp[q2S,hpT,z7,hfw];cases hsg:p.sg with
    | true =>
     cases hth:thB arcs (⟨xt,xl,xf,ww⟩:GArc) arcs.length with
     | true =>
      simp[e1];rw[ym0 ⟨hsg,hth⟩]at hke;refine hend _ (Weak.toF [1,3,6,7,8,12] [900003] [((3,0),3),((6,0),6),((8,0),8),((1,0),1),((2,0),2),((5,0),5)] ?_);simp[q3S,hpT,z7,hfw,hsg,hke]
     | false =>
      simp[e1];rw[yl9 (fun h=>Bool.false_ne_true (hth.symm.trans h.2))]at hke;refine⟨by omega,hend _ (Weak.toF [1,3,6,7,8,12] [900003] [((3,0),3),((6,0),6),((8,0),8),((1,0),1),((2,0),2),((182,0),5)] ?_)⟩;simp[q3S,hpT,z7,hfw,hsg,hke]
    | false =>
     simp[e1];rw[yl9 (fun h=>Bool.false_ne_true (hsg.symm.trans h.1))]at hke;refine⟨by omega,hend _ (Weak.toF [1,3,6,7,8,12] [900003] [((3,0),3),((6,0),6),((8,0),8),((1,0),1),((2,0),2),((182,0),5)] ?_)⟩;simp[q3S,hpT,z7,hfw,hsg,hke]
   ·have hsy2:swA p.fw (⟨xf,xl,xt,ww⟩:GArc)=(⟨xf,xl,xt,ww⟩:GArc):=by rw[hsw,yl9 (show ¬ (p.fw=true/\xt<xf) from fun h=>hlt h.2)]
    have hke:=hke0;rw[yl9 (show ¬ (p.fw=true/\xf=xt) from fun h=>hft h.2),hsy2]at hke;simp[hft,hlt];refine zuj (W:=W) (p:=p) (sy:=sy) (N:=N) (i:=i) (at_:=atn) (ini:=ini) (fin:=fin) (arcs:=arcs) (x:=(⟨xf,xl,xt,ww⟩:GArc)) (by omega) (Weak.toF [1,3,6,7,8,12,13,14,15] [900003] [((3,0),3),((6,0),6),((8,0),8),((1,0),1),((2,0),2),((5,0),5),((13,0),13)] ?_) ?_
    ·simp[q2S,hpT,z7,thB,hfw]
    simp[q2S,hpT,z7,hfw];cases hsg:p.sg with
    | true =>
     cases hth:thB arcs (⟨xf,xl,xt,ww⟩:GArc) arcs.length with
     | true =>
      simp[e1];rw[ym0 ⟨hsg,hth⟩]at hke;refine hend _ (Weak.toF [1,3,6,7,8,12] [900003] [((3,0),3),((6,0),6),((8,0),8),((1,0),1),((2,0),2),((5,0),5)] ?_);simp[q3S,hpT,z7,hfw,hsg,hke]
     | false =>
      simp[e1];rw[yl9 (fun h=>Bool.false_ne_true (hth.symm.trans h.2))]at hke;refine⟨by omega,hend _ (Weak.toF [1,3,6,7,8,12] [900003] [((3,0),3),((6,0),6),((8,0),8),((1,0),1),((2,0),2),((182,0),5)] ?_)⟩;simp[q3S,hpT,z7,hfw,hsg,hke]
    | false =>
     simp[e1];rw[yl9 (fun h=>Bool.false_ne_true (hsg.symm.trans h.1))]at hke;refine⟨by omega,hend _ (Weak.toF [1,3,6,7,8,12] [900003] [((3,0),3),((6,0),6),((8,0),8),((1,0),1),((2,0),2),((182,0),5)] ?_)⟩;simp[q3S,hpT,z7,hfw,hsg,hke]
def autN(p:GPlan)(most:Int):Nat:=(wthn p.st (most+1)).toNat
def autS(p:GPlan):Int:=1+wthn p.sy 3
def zgj(W:WKd)(p:GPlan)(most:Int):GAuto :=
 ⟨W.r,autS p,autN p most,mp (autN p most) (iE W p),mp (autN p most) (fE W p (autN p most)),(a3 W p (autS p) (autN p most) (pA W p.L (autN p most)) 14).2⟩
theorem zln{W:WKd}(hW:W.good)(p:GPlan)(most:Int)(h0:0<=most)(h1:most<=60):Sp P F.b9 [enc p,.int .i64 W.k,.int .i64 most] (.pure (enc (zgj W p most))):=by
 refine Sp.vz c.b9 fun hok=>?_;have hL:p.L.length<=9223372036854775807:=by simp only[okL,z8x,okP]at hok;simpa[zkc,maxLen]using hok.1.2.2.2.2.1.1
 have hsr:=zck p.sy (show(1:Int)<=3 by omega);have hnr:=zck p.st (show(1:Int)<=most+1 by omega);have hN:autN p most<=64:=by unfold autN;omega
 have hNe:wthn p.st (most+1)=(autN p most:Int):=by unfold autN;omega
 have hS:1<=autS p/\autS p<=64:=by unfold autS;omega
 have e1:IntKind.i64.wrap (1+wthn p.sy 3)=autS p:=i64w (by omega) (by omega);have e2:IntKind.i64.wrap (most+1)=most+1:=i64w (by omega) (by omega);have hP:zgj W p most=⟨W.r,autS p,autN p most,mp (autN p most) (iE W p),mp (autN p most) (fE W p (autN p most)),(a3 W p (autS p) (autN p most) (pA W p.L (autN p most)) 14).2⟩:=rfl;have hal:=zys W p (autS p) (autN p most) (pA W p.L (autN p most)) 14;rw[hP];generalize autN p most=N at *
 simp[g.b9];refine zab (zeh p.sy 3 (by omega)) ?_;simp[e1,e2];refine zab (zeh p.st (most+1) (by omega)) ?_;rw[hNe];generalize autS p=sy at *
 simp
 refine ycc hW (p:=p) (sy:=sy) hN hL ((Weak.nilCell (s0:=8) (g0:=0) (i:=4) (s:=77) (sz:=8) rfl).trans ((Weak.nilCell (s0:=8) (g0:=0) (i:=5) (s:=78) (sz:=8) rfl).trans
  (zjv [1,3,6,7,8,9] [(900003,[(19,0)]),(3,[(3,0)]),(6,[(6,0)]),(8,[(8,0)]),(1,[(77,0)]),(2,[(78,0)])] ?_ (fun σ => σ 19 0=(900003,0) /\ σ 3 0=(3,0) /\ σ 6 0=(6,0) /\ σ 8 0=(8,0) /\ σ 77 0=(1,0) /\ σ 78 0=(2,0)) ?_ ?_))) ?_
 ·simp[zh3,zuq,zfl,PINB,DEAD,zes]
 ·simp[sgP,zhw,zej,St.site,look]
 ·rintro σ ⟨s1,s2,s3,s4,s5,s6⟩;simp[hpP,catS,sub,subO,subL,St.get,look,St.site,q1S,hpT,z7,s1,s2,s3,s4,s5,s6,mp,pA]
 simp[q1S,hpT,z7];refine ycb hW (p:=p) (sy:=sy) (N:=N) (at0:=pA W p.L N) (ini:=mp N (iE W p)) (fin:=mp N (fE W p N)) hN hS hL (ycv hW p.L N) ((Weak.nilCell (s0:=8) (g0:=0) (i:=6) (s:=77) (sz:=11) rfl).trans (Weak.toF [1,3,6,7,8,12] [900003] [((3,0),3),((6,0),6),((8,0),8),((1,0),1),((2,0),2),((77,0),5)] ?_)) fun i=>?_
 ·simp[q3S,hpT,z7]
 generalize a3 W p sy N (pA W p.L N) 14=s at *
 obtain⟨at_,arcs⟩:=s;have t1:(mp N (iE W p)).take N=mp N (iE W p):=ymh (by rw[zbr];omega);have t2:(mp N (fE W p N)).take N=mp N (fE W p N):=ymh (by rw[zbr];omega);simp[q3S,hpT,z7,zbr,t1,t2,WKd.r]
def gsum(s:Nat):Nat->Nat
 | 0=>0
 | i+1=>gsum s i+s^i
theorem zs1(s n:Nat):gsum s n<=gsum s (n+1):=Nat.le_add_right _ _
theorem znb{s:Nat}(hs:1<=s):∀ n,n<=gsum s n
 | 0=>yn0 _
 | n+1=>by have:=znb hs n;have:1<=s^n:=Nat.one_le_pow _ _ hs;simp only[gsum];omega
def sfW(s:Nat):Nat->Nat->List Int->List Int
 | 0,_,acc=>acc
 | n+1,r,acc=>sfW s n (r / s) ((1+(r % s:Nat):Int)::acc)
def numL(s k:Nat):Nat:=fstU (gsum s) k 400
def zqd(s k:Nat):List Int:=sfW s (numL s k) (k - gsum s (numL s k)) []
def numK(k:Int)(s:Nat):Nat:=(if s<2 then wthn (wthn k 400) 60 else wthn k 400).toNat
theorem z24{s k:Nat}(hs:1<=s)(hk:k<400):numL s k<400/\gsum s (numL s k)<=k/\k<gsum s (numL s k+1):=by
 have key:∀ n,(∃ i,i<n/\gsum s i<=k/\k<gsum s (i+1))\/gsum s n<=k:=fun n=>by
  induction n with
  | zero=>exact .inr (yn0 _)
  | succ n ih =>
   rcases ih with⟨i,h1,h2⟩|h
   ·exact .inl ⟨i,by omega,h2⟩
   ·by_cases h':k<gsum s (n+1)
    ·exact .inl ⟨n,by omega,h,h'⟩
    ·exact .inr (by omega)
 rcases key 400 with⟨i,h1,h2,h3⟩|h
 ·have:numL s k=i:=z4k (zs1 s) h1 h2 h3;rw[this];exact⟨h1,h2,h3⟩
 ·have:=znb hs 400;omega
theorem zuo{s k i:Nat}(hi:i<400)(h1:gsum s i<=k)(h2:k<gsum s (i+1)):numL s k=i:=z4k (zs1 s) hi h1 h2
theorem yb5(n:Nat)(x v:AV):(List.replicate (n+1) x).set n v=List.replicate n x++[v]:=by rw[ypq,yq7 _ _ (by simp)];simp
theorem zy8(k:Int)(s:Nat)(hs:1<=s/\s<=64):Sp P F.ch [.int .i64 k,.int .i64 s] (.pure (.sl (ens (zqd s (numK k s))))):=by
 have r1:=zck k (show(1:Int)<=400 by omega);have r2:=zck (wthn k 400) (show(1:Int)<=60 by omega);have hK:numK k s<400:=by unfold numK;split<;>omega
 have hKe:((numK k s:Nat):Int)=if s<2 then wthn (wthn k 400) 60 else wthn k 400:=by unfold numK;split<;>omega
 obtain⟨l1,l2,l3⟩:=z24 hs.1 hK;refine Sp.vz c.ch fun _=>?_;generalize hR:retP [(4,none)] (.pure (.sl (ens (zqd s (numK k s)))))=R;have hW:zqd s (numK k s)=sfW s (numL s (numK k s)) (numK k s - gsum s (numL s (numK k s))) []:=rfl;have huni:=fun i hi h1 h2=>zuo (s:=s) (k:=numK k s) (i:=i) hi h1 h2;generalize numL s (numK k s)=len at *
 generalize numK k s=K at *
 have hlen:len<=K:=ym6 (znb hs.1 len) l2
 have main:vL P 45 R g.pq [.blk 0,.code (.seq (.reg [⟨some 26,.mv (.t 6),none⟩,⟨some 27,.mkslice 1 (.p (.int .i64 0)) (.t 26) (.t 26),none⟩,⟨some 7,.mv (.t 27),none⟩] [[5],[26],[27]]) (.seq (.seq (.reg [⟨some 28,.mv (.t 6),none⟩,⟨some 29,.ibin .sub (.t 28) (.c (.p (.int .i64 1))),none⟩,⟨some 8,.mv (.t 29),none⟩] [[6],[28],[29]]) (.blk 2 (.loop g.qt))) (.seq (.reg [⟨some 44,.mv (.t 7),none⟩,⟨some 4,.mv (.t 44),none⟩] [[0,1,7,8],[44]]) .ret)))]
   ⟨[(1,.p (.int .i64 s)),(0,.p (.int .i64 K)),(5,.p (.int .i64 1)),(6,.p (.int .i64 0))],[]⟩:=by
  refine zag (S:=fun i:Nat=>mkSt [(0,.p (.int .i64 (K - gsum s i:Nat))),(1,.p (.int .i64 s)),(5,.p (.int .i64 (s^i:Nat))),(6,.p (.int .i64 i))] []) (I:=fun i=>gsum s i<=K) (m:=fun i=>400 - i) 0
   (Weak.to [0,1,5,6] [] (by simp[mkSt,gsum])) (by simp[gsum]) ?_
  rintro i hi R' hn hr hx;have hik:i<=K:=ym6 (znb hs.1 i) hi;by_cases hc:s^i<=K - gsum s i
  ·have hc2:((s^i:Nat):Int)<=((K - gsum s i:Nat):Int):=by omega
   have hb:s^i*s<=400*64:=ymf (by omega) hs.2;have hg:gsum s (i+1)=gsum s i+s^i:=rfl;have e1:IntKind.i64.wrap (((K - gsum s i:Nat):Int) - ((s^i:Nat):Int))=((K - gsum s (i+1):Nat):Int):=by rw[i64w (by omega) (by omega)];omega
   have e2:IntKind.i64.wrap (((s^i:Nat):Int)*(s:Int))=((s^(i+1):Nat):Int):=by rw[<- Int.natCast_mul,i64w (by omega) (by omega),ymm]
   have e3:=i64s i;generalize hp:s^i=pw at *
   simp[g.pq,mkSt,hc2,e1,e2,e3,-Int.natCast_pow,-Int.natCast_mul];exact hn (i+1) _ (Weak.to [0,1,5,6] [] (by simp[mkSt,-Int.natCast_pow])) (by omega) (by omega)
  ·have hc2:¬ ((s^i:Nat):Int)<=((K - gsum s i:Nat):Int):=by omega
   have hli:len=i:=huni i (by omega) hi (by show K<gsum s i+s^i;omega);subst hli;generalize hp:s^len=pw at *
   simp[g.pq,mkSt,hc2,-Int.natCast_pow];refine hx _ _ ?_;simp[g.ch];have e5:IntKind.i64.wrap ((len:Int) - 1)=(len:Int) - 1:=i64w (by omega) (by omega);refine⟨by omega,?_⟩
   refine zag (S:=fun x:Nat × Nat × List Int=>mkSt [(0,.p (.int .i64 x.2.1)),(1,.p (.int .i64 s)),(7,.own 27 0 0 len),(8,.p (.int .i64 ((x.1:Int) - 1)))] [(27,⟨1,avs (List.replicate x.1 (0:Int)++x.2.2)⟩)])
    (I:=fun x=>x.1+x.2.2.length=len/\x.2.1<=400/\sfW s x.1 x.2.1 x.2.2=zqd s K) (m:=fun x=>x.1) (len,K - gsum s len,[])
    (Weak.to [0,1,7,8] [((27,0),27)] (by simp[mkSt,e5])) ⟨by simp,by simp only;omega,hW.symm⟩ ?_
   rintro⟨n,r,acc⟩ ⟨h1,h2,h3⟩ R2 hn2 hr2 hx2;simp only at h1 h2 h3;cases n with
   | zero =>
    simp[g.qt,mkSt];refine hx2 _ _ ?_;simp only[sfW]at h3;have hla:acc.length=len:=by omega
    have htk:acc.take len=acc:=ymh (by omega);simp;rw[<- hR,<- h3];simp[hla,htk]
   | succ n =>
    have hlt:n<len:=by omega
    have e7:(r:Int).tmod (s:Int)=((r % s:Nat):Int):=rfl;have e8:(r:Int).tdiv (s:Int)=((r / s:Nat):Int):=rfl;have hdiv:=yop r s;have hsf:sfW s (n+1) r acc=sfW s n (r / s) ((1+(r % s:Nat):Int)::acc):=rfl;have hmod:=ynn r (show 0<s by omega);rw[hsf]at h3;generalize r / s=d at *
    generalize r % s=md at *
    have e11:IntKind.i64.wrap ((n:Int) - 1)=(n:Int) - 1:=i64w (by omega) (by omega);have e10:IntKind.i64.wrap ((n:Int)+1 - 1 - 1)=(n:Int) - 1:=by rw[i64w (by omega) (by omega)];omega
    have hs0:¬ s=0:=by omega
    have e12:IntKind.i64.wrap (d:Int)=(d:Int):=i64w (by omega) (by omega);have e13:IntKind.i64.wrap (1+(md:Int))=1+(md:Int):=i64w (by omega) (by omega);simp[g.qt,mkSt];refine⟨hs0,⟨hlt,by omega⟩,?_⟩;rw[zit];refine⟨.p (.int .i64 0),by rw[you (by simp)];simp,?_⟩;simp only[e7,e8,e13,yb5];simp[hs0,e8,e12,e11,-Int.natCast_ediv,-Int.natCast_emod];refine hn2 (n,d,(1+(md:Int))::acc) _ (Weak.to [0,1,7,8] [((27,0),27)] (by simp[mkSt])) ⟨?_,?_,h3⟩ (by simp)
    ·simp only[ymz];omega
    ·simp only;omega
 by_cases h2:s<2
 ·have h2':(s:Int)<2:=by omega
  rw[ym0 h2]at hKe;simp[g.ch];refine zab (zeh k 400 (by omega)) ?_;simp[h2'];refine zab (zeh (wthn k 400) 60 (by omega)) ?_;rw[<- hKe];simp;exact main
 ·have h2':¬ (s:Int)<2:=by omega
  rw[yl9 h2]at hKe;simp[g.ch];refine zab (zeh k 400 (by omega)) ?_;rw[<- hKe];simp[h2'];exact main
end Go.Ab
namespace Go.Ab
section
variable {P:Program} {K:Ctx} {Z Z':Cz} {st st':St} {w w':World} {a:Act}
end
open Enc (enc)
instance:Enc (Int × Int):=⟨fun x=>.agg [.int .i64 x.1,.int .i64 x.2],2,by decide,fun _=>rfl⟩
@[simp] theorem yir(x:Int × Int):enc x=.agg [.int .i64 x.1,.int .i64 x.2]:=rfl
@[simp] theorem yew:Enc.sz (Int × Int)=2:=rfl
def spS(on:List Bool)(p:Int × Int):List Bool:=if on.getD p.1.toNat false=true then on.set p.2.toNat true else on
def spR(ps:List (Int × Int))(on:List Bool):List Bool:=ps.foldl spS on
def spF(ps:List (Int × Int)):Nat->List Bool->List Bool
 | 0,on=>on
 | n+1,on=>spF ps n (spR ps on)
theorem ybt(on p):(spS on p).length=on.length:=by unfold spS;split<;>simp
theorem zjp:∀ (ps:List (Int × Int)) (on:List Bool),(spR ps on).length=on.length
 | [],_=>rfl
 | p::ps,on=>by rw[show spR (p::ps) on=spR ps (spS on p) from rfl,zjp,ybt]
theorem zdd(ps:List (Int × Int)):∀ (n:Nat) (on:List Bool),(spF ps n on).length=on.length
 | 0,_=>rfl
 | n+1,on=>by rw[show spF ps (n+1) on=spF ps n (spR ps on) from rfl,zdd,zjp]
theorem zk9(ps:List (Int × Int)):∀ (n:Nat) (on:List Bool),spF ps (n+1) on=spR ps (spF ps n on)
 | 0,_=>rfl
 | n+1,on=>by rw[show spF ps (n+1+1) on=spF ps (n+1) (spR ps on) from rfl,zk9];rfl
theorem z6q{ps:List (Int × Int)}{k:Nat}(h:k<ps.length)(on:List Bool):spR (ps.take (k+1)) on=spS (spR (ps.take k) on) ps[k]:=by unfold spR;rw[ymg h,yo1];rfl
theorem toNat_lt{p:Int}{n:Nat}(h:0<=p/\p<n):∃ k:Nat,p=k/\k<n:=⟨p.toNat,by omega,by omega⟩
theorem zod(on:List Bool)(ps:List (Int × Int))(hn:on.length<=100000)(hp:ps.length<=100000)(h:∀ p∈ps,(0<=p.1/\p.1<on.length)/\0<=p.2/\p.2<on.length) :
  Sp P F.l7 [.sl (ens on),.sl (ens ps)] (.pure (.sl (ens (spF ps on.length on)))):=by
 refine Sp.vz c.l7 fun _=>?_;simp[g.l7];refine⟨?_,?_⟩
 ·omega
 refine zag (S:=fun k:Nat=>mkSt [(0,.own 1 0 0 on.length),(1,.p (.sl (ens ps))),(5,.p (.int .i64 k))] [(1,⟨1,avs (spF ps k on)⟩)]) (I:=fun k=>k<=on.length) (m:=fun k=>on.length - k) 0
  (Weak.to [0,1,5] [((8,0),1)] (by simp[spF])) (by omega) ?_
 rintro k h1 R hn' hr hx;have e3:=i64s k;simp[g.tu,mkSt];refine⟨fun hk=>?_,fun hk=>hx _ _ ?_⟩
 ·refine zag (S:=fun i:Nat=>mkSt [(0,.own 1 0 0 on.length),(1,.p (.sl (ens ps))),(5,.p (.int .i64 k)),(6,.p (.int .i64 i))] [(1,⟨1,avs (spR (ps.take i) (spF ps k on))⟩)]) (I:=fun i=>i<=ps.length) (m:=fun i=>ps.length - i) 0
   (Weak.to [0,1,5,6] [((1,0),1)] (by simp[spR])) (by omega) ?_
  rintro i h2 R2 hn2 hr2 hx2;have e4:=i64s i;have hlen:(spR (ps.take i) (spF ps k on)).length=on.length:=by rw[zjp,zdd]
  simp[g.tp,mkSt];refine⟨fun hi=>?_,fun hi=>hx2 _ _ ?_⟩
  ·obtain⟨⟨a1,a2⟩,a3,a4⟩:=h _ (ym7 hi);obtain⟨x,ex,hx3⟩:=toNat_lt ⟨a1,a2⟩;obtain⟨y,ey,hy3⟩:=toNat_lt ⟨a3,a4⟩;refine zae hi ?_;simp[ex];have hst:=z6q hi (spF ps k on);generalize hcur:spR (List.take i ps) (spF ps k on)=cur at *
   have hst2:spS cur ps[i]=if cur[x]=true then cur.set y true else cur:=by unfold spS;rw[ex,ey,yno,yno,ym8,yma (by omega),ynj]
   refine⟨⟨hx3,by omega⟩,zae (by omega) ?_⟩;by_cases hb:cur[x]=true
   ·rw[ym0 hb]at hst2;simp[hb];refine zae hi ?_;simp[ey,e4];refine⟨⟨hy3,by omega⟩,zae (by omega) ?_⟩;exact hn2 (i+1) _ (Weak.to [0,1,5,6] [((1,0),1)] (by simp[mkSt,hst,hst2])) (by omega) (by omega)
   ·rw[yl9 hb]at hst2;simp[hb,e4];exact hn2 (i+1) _ (Weak.to [0,1,5,6] [((1,0),1)] (by simp[mkSt,hst,hst2])) (by omega) (by omega)
  ·have:i=ps.length:=by omega
   subst this;simp[e3];exact hn' (k+1) _ (Weak.to [0,1,5] [((1,0),1)] (by simp[mkSt,zk9])) (by omega) (by omega)
 ·have:k=on.length:=by omega
  subst this;simp[zdd];rw[ymh (by rw[zdd];omega)]
structure Meas (r:GRing) where
 mb:Nat->GW->Prop
 lim:Nat
 mono:∀ {m n:Nat} {w:GW},mb m w->m<=n->mb n w
 zero:mb 0 r.zero
 plus:∀ {v w:GW} {n:Nat},v.chk r->w.chk r->mb n v->mb n w->mb (n+1) (r.plus v w)
 times:∀ {v w:GW} {m n:Nat},v.chk r->w.chk r->mb m v->mb n w->mb (m+n+1) (r.times v w)
 plusS:∀ {v w:GW} {n:Nat},n<=lim->v.chk r->w.chk r->mb n v->mb n w->Sp P F.aa [enc r,enc v,enc w] (.pure (enc (r.plus v w)))
 timesS:∀ {v w:GW} {n:Nat},n<=lim->v.chk r->w.chk r->mb n v->mb n w->Sp P F.wc [enc r,enc v,enc w] (.pure (enc (r.times v w)))
def vb{r:GRing}(M:Meas r)(n:Nat)(l:List GW):Prop:=∀ w∈l,w.chk r/\M.mb n w
def GTArc.fit(x:GTArc)(N:Nat):Prop:=(0<=x.f/\x.f<N)/\0<=x.t/\x.t<N
section
variable {r:GRing} (M:Meas r)
def fits{r:GRing}(M:Meas r)(c N:Nat)(l:List GTArc):Prop:=∀ x∈l,(x.w.chk r/\M.mb c x.w)/\x.fit N
structure GTrans.fits {r:GRing} (M:Meas r) (c:Nat) (t:GTrans):Prop where
 ring:t.ring=r
 st:0<=t.st/\t.st<=64
 arcs:Go.Ab.fits M c t.st.toNat t.arcs
 ini:vb M c t.ini/\t.ini.length=t.st.toNat
 fin:vb M c t.fin/\t.fin.length=t.st.toNat
 rok:r.ok=true
variable {M}
end
section
variable (t:GTrans) (wx wy:List Int)
end
def z92(w:List Int)(m:Int):Prop:=(1<=m/\m<=32)/\w.length<=256/\∀ x∈w,1<=x/\x<=m
noncomputable instance (w:List Int) (m:Int):Decidable (z92 w m):=Classical.propDecidable _
structure GModel where
 st:Int
 ini:List Int
 fin:List Int
 arcs:List Int
 em:Bool
instance:Enc GModel:=⟨fun x=>.agg [.int .i64 x.st,.sl (ens x.ini),.sl (ens x.fin),.sl (ens x.arcs),.bool x.em],5,by decide,fun _=>rfl⟩
@[simp] theorem yhd(x:GModel):enc x=.agg [.int .i64 x.st,.sl (ens x.ini),.sl (ens x.fin),.sl (ens x.arcs),.bool x.em]:=rfl
@[simp] theorem yd4:Enc.sz GModel=5:=rfl
section
variable {r:GRing}
def ckL(r:GRing)(N:Nat)(l:List GW):Prop:=(∀ w∈l,w.chk r)/\l.length=N
def okA(r:GRing)(N:Nat)(p:GTArc->Option (List GW))(x:GTArc):Prop:=x.w.chk r/\x.fit N/\∀ e,p x=some e->ckL r N e
def yh7(r:GRing)(N:Nat)(l:List GTArc):Prop:=∀ x∈l,x.w.chk r/\x.fit N
structure swap (t u:GTrans):Prop where
 ring:u.ring=t.ring
 st:u.st=t.st
 ini:u.ini=t.ini
 fin:u.fin=t.fin
 arcs:u.arcs.Perm (t.arcs.map swT)
structure ckT (r:GRing) (t:GTrans):Prop where
 ring:t.ring=r
 rok:r.ok=true
 fin:ckL r t.st.toNat t.fin
 arcs:yh7 r t.st.toNat t.arcs
end
section
variable {α : Type} {key : α -> List Int} {wt : α -> GW} {r:GRing}
end
end Go.Ab
namespace Go.Ab
open Enc (enc)
attribute [local simp] zaj Opd.slots
inductive GW.lt:GW->Prop
 | mk {q:GRat} {c:Int} {i:Bool} {s:UInt64} {p:List GMono} {ps:List GW}:q.sm 3->p.length<=8->ps.length<=4->psm p 2->(∀ w∈ps,GW.lt w)->GW.lt (.mk q c i s p ps)
noncomputable instance (w:GW):Decidable w.lt:=Classical.propDecidable _
structure GAuto.lt (a:GAuto):Prop where
 ring:a.ring.parts.length<=6
 ini:a.ini.length<=6/\∀ w∈a.ini,w.lt
 fin:a.fin.length<=6/\∀ w∈a.fin,w.lt
 al:a.arcs.length<=16
 arcs:∀ x∈a.arcs,x.w.lt
noncomputable instance (a:GAuto):Decidable a.lt:=Classical.propDecidable _
structure GTrans.lt (a:GTrans):Prop where
 ring:a.ring.parts.length<=6
 ini:a.ini.length<=5/\∀ w∈a.ini,w.lt
 fin:a.fin.length<=5/\∀ w∈a.fin,w.lt
 al:a.arcs.length<=12
 arcs:∀ x∈a.arcs,x.w.lt
noncomputable instance (a:GTrans):Decidable a.lt:=Classical.propDecidable _
def aw1:GW:=.mk (rto 1) 0 false 0 [] []
def ar1:GRing:=⟨1,[]⟩
def at0:GTrans:=⟨ar1,1,3,1,[aw1],[aw1],[⟨0,1,2,0,aw1⟩,⟨0,1,3,0,aw1⟩]⟩
structure GAuto.fit (a:GAuto):Prop where
 sm:a.sm 1048576
 li:a.ini.length<=1000000
 lf:a.fin.length<=1000000
 la:a.arcs.length<=1000000
structure GTrans.fit (a:GTrans):Prop where
 sm:a.sm 1048576
 li:a.ini.length<=1000000
 lf:a.fin.length<=1000000
 la:a.arcs.length<=1000000
end Go.Ab
namespace Go.Ab
open Enc (enc)
structure GW.tiny (r:GRing) (w:GW):Prop where
 chk:w.chk r
 mb:w.mb 1
 pl:w.poly.length<=3
 ps:∀ x∈w.parts,x.poly.length<=3
structure GTrans.tin (t:GTrans):Prop where
 ok:t.ok
 st:t.st<=3
 al:t.arcs.length<=7
 ini:∀ w∈t.ini,w.tiny t.ring
 fin:∀ w∈t.fin,w.tiny t.ring
 arcs:∀ x∈t.arcs,x.w.tiny t.ring
def GArc.fit(x:GArc)(N:Nat):Prop:=(0<=x.f/\x.f<N)/\0<=x.t/\x.t<N
structure GAuto.fits {r:GRing} (M:Meas r) (z:Nat) (a:GAuto):Prop where
 ring:a.ring=r
 st:0<=a.st/\a.st<=64
 arcs:∀ x∈a.arcs,(x.w.chk r/\M.mb z x.w)/\x.fit a.st.toNat
 ini:Go.Ab.vb M z a.ini/\a.ini.length=a.st.toNat
 fin:Go.Ab.vb M z a.fin/\a.fin.length=a.st.toNat
 rok:r.ok=true
def tw(w:GW)(B:Int):Prop:=∃ c i,w=.mk gr0 c i 0 [] []/\0<=c/\c<=B/\(i=true->c=0)
theorem zuh:(⟨2,[]⟩:GRing).ok=true:=by simp[GRing.ok]
theorem zgo{w:GW}{B:Int}(h:tw w B)(hB:B<=1099511627776):w.chk ⟨2,[]⟩:=by obtain⟨c,i,rfl,h2,h3,h4⟩:=h;refine⟨zuh,fun _=>?_,fun h=>by simp at h⟩;exact⟨rfl,fun _ _=>rfl,fun h=>absurd rfl h,fun _=>rfl,fun _=>rfl,fun h=>by simp at h,fun _=>⟨h2,by show c<=_;omega,h4⟩,fun h=>by simp at h,fun h=>by simp at h⟩
theorem zlw{w:GW}{B:Int}(h:tw w B):w.sm 3:=by obtain⟨c,i,rfl,h2,h3,h4⟩:=h;exact .mk (zg7 3) (by intro m hm;simp at hm) (by simp) (by simp) (by simp)
theorem z0c(L:List Int)(a:Nat):tw (wtT L a) 5:=by
 unfold wtT;split
 ·exact⟨0,true,rfl,by omega,by omega,fun _=>rfl⟩
 ·have:=zry L (tn L a) (show(1:Int)<=6 by omega);exact⟨_,false,rfl,by omega,by omega,fun h=>by cases h⟩
theorem ye7:tw wkT.r.zero 5:=⟨0,true,by simp[WKd.r,wkT,GRing.zero,zuh],by omega,by omega,fun _=>rfl⟩
theorem yg0(p:GPlan)(s:Nat):tw (iE wkT p s) 5:=by
 unfold iE;split
 ·exact ye7
 ·exact z0c _ _
theorem yg4(p:GPlan)(N s:Nat):tw (fE wkT p N s) 5:=by
 unfold fE;split
 ·exact ye7
 ·exact z0c _ _
structure arcOk (N:Nat) (sy:Int) (x:GArc):Prop where
 f:0<=x.f/\x.f<(N:Int)
 t:0<=x.t/\x.t<(N:Int)
 l:1<=x.l/\x.l<=sy
 w:tw x.w 5
theorem z5u{L:List Int}{a N:Nat}{sy:Int}(hN:0<N)(hs:1<=sy):arcOk N sy (arcP wkT L a N sy):=by have h1:=zry L a (show(1:Int)<=N by omega);have h2:=zry L (tn L a) hs;have h3:=zry L (tn L (tn L a)) (show(1:Int)<=N by omega);refine⟨h1,h3,?_,z0c _ _⟩;show 1<=1+tk L (tn L a) sy/\1+tk L (tn L a) sy<=sy;omega
theorem yac{N:Nat}{sy:Int}{x:GArc}(fw:Bool)(h:arcOk N sy x):arcOk N sy (swA fw x):=by
 unfold swA;split
 ·exact⟨h.t,h.f,h.l,h.w⟩
 ·exact h
def sgl(l:List GArc):Prop:=l.Pairwise fun x y=>¬ (x.f=y.f/\x.l=y.l)
theorem z75{N:Nat}{sy:Int}{p:GPlan}(hp:p.sg=true){arcs:List GArc}{x:GArc}(hx:arcOk N sy x)(h:∀ y∈arcs,arcOk N sy y)(hs:sgl arcs):(∀ y∈zm4 p arcs x,arcOk N sy y)/\sgl (zm4 p arcs x):=by
 unfold zm4;split
 ·exact⟨h,hs⟩
 ·split
  ·exact⟨h,hs⟩
  ·rename_i h1 h2;have h3:thB arcs (swA p.fw x) arcs.length=false:=by
    cases hb:thB arcs (swA p.fw x) arcs.length
    ·rfl
    ·exact absurd ⟨hp,hb⟩ h2
   unfold thB at h3;rw[yml,List.any_eq_false]at h3;refine⟨fun y hy=>?_,?_⟩
   ·rcases ymc.1 hy with hy|hy
    ·exact h y hy
    ·rw[ymj]at hy;subst hy;exact yac _ hx
   ·refine List.pairwise_append.2 ⟨hs,List.pairwise_singleton _ _,fun y hy z hz=>?_⟩;rw[List.mem_singleton]at hz;subst hz;have:=h3 y hy;simpa using this
theorem yh8{p:GPlan}(hp:p.sg=true){N:Nat}{sy:Int}(hs:1<=sy)(at0:Nat):∀ i,(∀ y∈(a3 wkT p sy N at0 i).2,arcOk N sy y)/\sgl (a3 wkT p sy N at0 i).2
 | 0=>⟨fun y hy=>(by cases hy),List.Pairwise.nil⟩
 | i+1=>by
  have ih:=yh8 hp (N:=N) hs at0 i;simp only[a3,zpu];split
  ·rename_i h;exact z75 hp (z5u h.2 hs) ih.1 ih.2
  ·exact ih
theorem zso{α : Type}{n:Nat}{f:Nat -> α}{x : α}(h:x∈mp n f):∃ i,i<n/\x=f i:=by obtain⟨i,hi,e⟩:=ym5.1 h;exact⟨i,yna.1 hi,e.symm⟩
end Go.Ab
namespace Go.Ab
open Enc (enc)
attribute [local simp] zaj Opd.slots
theorem ybe{v w:GW}{B:Int}(hv:tw v B)(hw:tw w B):tw (GRing.plus ⟨2,[]⟩ v w) B:=by
 have e:GRing.plus ⟨2,[]⟩ v w=if v.inf=true\/(w.inf=false/\w.cost<v.cost)then w else v:=by simp[GRing.plus,zav]
 rw[e];split
 ·exact hw
 ·exact hv
structure MdlA (a:GAuto):Prop where
 det:DetA a 3
 ring:a.ring=⟨2,[]⟩
 sy:1<=a.sy/\a.sy<=3
 st:0<=a.st/\a.st<=4
 arcs:∀ x∈a.arcs,tw x.w 5
 ini:∀ w∈a.ini,tw w 5
 fin:∀ w∈a.fin,tw w 5
theorem zi8:tw gw0 5:=⟨0,false,rfl,by omega,by omega,fun h=>by cases h⟩
theorem zo9:¬ gw0=GRing.zero ⟨2,[]⟩:=by
 intro h;have:gw0.inf=(GRing.zero ⟨2,[]⟩).inf:=by rw[<- h]
 simp[GRing.zero,zuh,gw0]at this
theorem yc4{a:GAuto}(ok:a.ok)(hs:SSrt GArc.key a.arcs)(hn:∀ x∈a.arcs,x.w≠a.ring.zero):a.nf=a:=by
 have hc:∀ x∈a.arcs,x.w.chk a.ring:=fun x hx=>(ok.arcs x hx).2.2.2.2.2.2;obtain⟨b1,b2,b3⟩:=zgr ok.ring hc;have e:tidA a.ring a.arcs=a.arcs:=by rw[zl1];exact z8o (key:=GArc.key) (wt:=GArc.w) (r:=a.ring) (fun x y h h'=>yek.2 ⟨h,h'⟩) b1 hs (fun x hx=>(b2 x hx).1) hc (fun x hx=>(b2 x hx).2) hn fun k=>by unfold atK;rw[b3]
 cases a;simp only[GAuto.nf]at e ⊢;rw[e]
theorem zvm(a b:Nat)(ha:a<4294967296^1048576)(hb:b<4294967296^1048576):Sp P F.aj [enc (natR a),enc (natR b)] (.pure (.int .i64 (if a<b then -1 else if b<a then 1 else 0))):=by have h:=znn (natR a) (natR b) (zut ha) (zut hb);rw[z7w]at h;exact h
theorem zpx{n:Nat}(h:n<4294967296):n<4294967296^1048576:=ymk h (ym6 (Nat.le_of_eq (Nat.pow_one _).symm) (ygc 4294967296 1 1048576 (by omega) (by omega)))
end Go.Ab
namespace Go.Ab
def labI(A:GAuto):Prop:=∀ q,(za7 A.arcs q).Pairwise fun x y=>x.l<y.l
section
variable {A:GAuto} {N:Nat} (hA:CtrOk A N) (hL:labI A)
include hA hL
end
abbrev zrT:GW:=GRing.zero ⟨2,[]⟩
end Go.Ab
namespace Go.Ab
open Enc (enc)
attribute [local simp] zaj Opd.slots
theorem yae{s:Nat}(hs:1<=s):∀ (n r:Nat) (acc:List Int),(∀ c∈acc,1<=c/\c<=(s:Int))->(∀ c∈sfW s n r acc,1<=c/\c<=(s:Int))/\(sfW s n r acc).length=n+acc.length
 | 0,r,acc,h=>⟨h,by simp[sfW]⟩
 | n+1,r,acc,h=>by
  have hm:=ynn r (show 0<s by omega);have ih:=yae hs n (r / s) ((1+(r % s:Nat):Int)::acc) (fun c hc=>by
   rcases ym3.1 hc with rfl|hc
   ·omega
   ·exact h c hc)
  refine⟨ih.1,?_⟩;show(sfW s n (r / s) _).length=_;rw[ih.2,ymz];omega
theorem zx2{s:Nat}(hs:2<=s):∀ n,2^n<=gsum s n+1
 | 0=>by simp[gsum]
 | n+1=>by have ih:=zx2 hs n;have h1:2^n<=s^n:=Nat.pow_le_pow_left hs n;simp only[gsum];rw[ymm];omega
theorem yc3(k:Int)(s:Nat):numK k s<400/\(s<2->numK k s<60):=by
 have r1:=zck k (show(1:Int)<=400 by omega);have r2:=zck (wthn k 400) (show(1:Int)<=60 by omega);unfold numK;split
 ·exact⟨by omega,fun _=>by omega⟩
 ·exact⟨by omega,fun h=>by omega⟩
theorem z7v(k:Int){s:Nat}(hs:1<=s/\s<=32):z92 (zqd s (numK k s)) s/\(zqd s (numK k s)).length<=60:=by
 obtain⟨k1,k2⟩:=yc3 k s;obtain⟨l1,l2,l3⟩:=z24 hs.1 k1;have hl:numL s (numK k s)<=60:=by
  by_cases h:s<2
  ·have:=k2 h;have:=znb hs.1 (numL s (numK k s));omega
  ·have h9:gsum s (numL s (numK k s))<=399:=by omega
   by_cases hb:numL s (numK k s)<=60
   ·exact hb
   ·have h1:=zx2 (show 2<=s by omega) (numL s (numK k s));have h2:2^10<=2^numL s (numK k s):=yn4 (by omega) (by omega);omega
 have h:=yae hs.1 (numL s (numK k s)) (numK k s - gsum s (numL s (numK k s))) [] (fun c hc=>by cases hc);have hlen:(zqd s (numK k s)).length=numL s (numK k s):=by have:=h.2;simpa[zqd]using this
 exact⟨⟨by omega,by omega,h.1⟩,by omega⟩
end Go.Ab
namespace Go.Ab
def lexL:List Int->List Int->Prop
 | [],_=>False
 | _::_,[]=>False
 | c::v,d::w=>c<d\/(c=d/\lexL v w)
structure LabB (A:GAuto) (sy:Int):Prop where
 lo:∀ x∈A.arcs,1<=x.l
 hi:∀ x∈A.arcs,x.l<=sy
end Go.Ab
namespace Go.Ab
open Enc (enc)
attribute [local simp] zaj Opd.slots
end Go.Ab
namespace Go.Ab
def slt(v w:List Int):Prop:=v.length<w.length\/(v.length=w.length/\lexL v w)
theorem zo2:∀ (v w:List Int),v.length=w.length->(lexI v w<0/\lexL v w)\/(lexI v w=0/\v=w)\/(0<lexI v w/\lexL w v)
 | [],[],_=>.inr (.inl ⟨rfl,rfl⟩)
 | [],_::_,h=>by simp at h
 | _::_,[],h=>by simp at h
 | c::v,d::w,h=>by
  have ih:=zo2 v w (by simpa using h);simp only[lexI,lexL];by_cases h1:c<d
  ·rw[ym0 h1];exact .inl ⟨by omega,.inl h1⟩
  ·rw[yl9 h1];by_cases h2:d<c
   ·rw[ym0 h2];exact .inr (.inr ⟨by omega,.inl h2⟩)
   ·rw[yl9 h2];have e:c=d:=by omega
    subst e;rcases ih with⟨a,b⟩|⟨a,rfl⟩|⟨a,b⟩
    ·exact .inl ⟨a,.inr ⟨rfl,b⟩⟩
    ·exact .inr (.inl ⟨a,rfl⟩)
    ·exact .inr (.inr ⟨a,.inr ⟨rfl,b⟩⟩)
theorem zzy(v w:List Int):(cmp5 v w<0/\slt v w)\/(cmp5 v w=0/\v=w)\/(0<cmp5 v w/\slt w v):=by
 unfold cmp5 slt;by_cases h:v.length=w.length
 ·rw[if_neg (by simpa using h)];rcases zo2 v w h with⟨a,b⟩|⟨a,b⟩|⟨a,b⟩
  ·exact .inl ⟨a,.inr ⟨h,b⟩⟩
  ·exact .inr (.inl ⟨a,b⟩)
  ·exact .inr (.inr ⟨a,.inr ⟨h.symm,b⟩⟩)
 ·rw[ym0 h];by_cases h2:v.length<w.length
  ·rw[ym0 h2];exact .inl ⟨by omega,.inl h2⟩
  ·rw[yl9 h2];exact .inr (.inr ⟨by omega,.inl (by omega)⟩)
section
variable {A:GAuto} {N:Nat} (hA:CtrOk A N) (hL:labI A)
include hA hL
end
end Go.Ab
namespace Go.Ab
open Enc (enc)
attribute [local simp] zaj Opd.slots
end Go.Ab
namespace Go.Ab
theorem zo1:∀ {u v w:List Int},lexL u v->lexL v w->lexL u w
 | [],_,_,h,_=>h.elim
 | _::_,[],_,h,_=>h.elim
 | _::_,_::_,[],_,h=>h.elim
 | a::u,b::v,c::w,h,k=>by
  simp only[lexL]at h k ⊢;rcases h with h|⟨rfl,h⟩<;>rcases k with k|⟨rfl,k⟩
  ·exact .inl (by omega)
  ·exact .inl h
  ·exact .inl k
  ·exact .inr ⟨rfl,zo1 h k⟩
theorem zmz:∀ {u:List Int},¬ lexL u u
 | [],h=>h
 | a::u,h=>by
  simp only[lexL]at h;rcases h with h|⟨_,h⟩
  ·omega
  ·exact zmz h
theorem zgu{u v w:List Int}(h:slt u v)(k:slt v w):slt u w:=by
 unfold slt at *
 rcases h with h|⟨h,h'⟩<;>rcases k with k|⟨k,k'⟩
 ·exact .inl (by omega)
 ·exact .inl (by omega)
 ·exact .inl (by omega)
 ·exact .inr ⟨by omega,zo1 h' k'⟩
theorem zjq{u:List Int}:¬ slt u u:=by
 rintro(h|⟨_,h⟩)
 ·omega
 ·exact zmz h
section
variable {A:GAuto} {N:Nat} (hA:CtrOk A N) (hL:labI A) {S:Nat} (hS:1<=S) (hB:LabB A (S:Int)) (s:Int)
include hA hL hS hB
end
end Go.Ab
namespace Go.Ab
open Enc (enc)
attribute [local simp] zaj Opd.slots
def mkU(src dst:GArc->Nat)(s:List Bool × Bool)(x:GArc):List Bool × Bool:=if s.1.getD (src x) false=true/\s.1.getD (dst x) false=false then(s.1.set (dst x) true,true)else s
def pasU(src dst:GArc->Nat)(A:List GArc)(u:List Bool)(k:Nat):List Bool × Bool:=(A.take k).foldl (mkU src dst) (u,false)
theorem zg2(src dst:GArc->Nat)(A:List GArc)(u:List Bool){k:Nat}(h:k<A.length):pasU src dst A u (k+1)=mkU src dst (pasU src dst A u k) A[k]:=by unfold pasU;rw[ymg h,yo1];rfl
theorem ydc(src dst:GArc->Nat)(s:List Bool × Bool)(x:GArc):(mkU src dst s x).1.length=s.1.length:=by unfold mkU;split<;>simp
theorem zeq(src dst:GArc->Nat)(A:List GArc)(u:List Bool):∀ k,(pasU src dst A u k).1.length=u.length
 | 0=>by simp[pasU]
 | k+1=>by
  by_cases h:k<A.length
  ·rw[zg2 _ _ _ _ h,ydc,zeq src dst A u k]
  ·have:pasU src dst A u (k+1)=pasU src dst A u k:=by unfold pasU;rw[ymh (by omega),ymh (by omega)]
   rw[this,zeq src dst A u k]
def fT(x:GArc):Nat:=x.f.toNat
def tT(x:GArc):Nat:=x.t.toNat
def e2S(v:GView)(A:List GArc)(N:Nat)(s:List Bool × Bool)(k:Nat):St :=
 mkSt [(1,.ptr 1 0 0 0),(3,.own 11 0 0 N),(5,.p (.bool s.2)),(27,.p (.sl (ens A))),(28,.p (.int .i64 A.length)),(29,.p (.int .i64 k))] [(1,⟨8,[.p (enc v)]⟩),(11,⟨1,avs s.1⟩)]
theorem zyz(l:List Bool)(i:Nat)(v:Bool):(avs l).set i (.p (.bool v))=avs (l.set i v):=by show(avs l).set i (.p (enc v))=_;simp[-zas,avs,ens,yoo]
theorem yec{v:GView}{A:List GArc}{N:Nat}(hA:∀ x∈A,(0<=x.f/\x.f<(N:Int))/\0<=x.t/\x.t<(N:Int))(hl:A.length<=100000){u:List Bool}(hu:u.length=N){Q:Exit->St->Prop}{ks:List Kt}{st:St}(hw:Weak st (e2S v A N (u,false) 0))
  (hx:zb8 P 52 Q (zay 4 ks) 4 (e2S v A N (pasU tT fT A u A.length) A.length)):vL P 52 Q g.qc ks st:=by
 refine zag (S:=fun k:Nat=>e2S v A N (pasU tT fT A u k) k) (I:=fun k=>k<=A.length) (m:=fun k=>A.length - k) 0 hw (by omega) ?_;rintro k hk R hn hr hx';have e1:=i64s k;by_cases hlt:k<A.length
 ·obtain⟨⟨f0,f1⟩,t0,t1⟩:=hA _ (ym7 hlt);have hlt2:(k:Int)<(A.length:Int):=by omega
  have hs:=zg2 tT fT A u hlt;have hlen:=zeq tT fT A u k;have hend:∀ st',Weak st' (e2S v A N (pasU tT fT A u (k+1)) (k+1))->R .normal st':=fun st' h=>hn (k+1) st' h (by omega) (by omega);rw[hs]at hend;generalize pasU tT fT A u k=s at *
  obtain⟨w,b⟩:=s;simp only at hlen;obtain⟨f,hf⟩:∃ f:Nat,A[k].f=(f:Int):=⟨A[k].f.toNat,by omega⟩;obtain⟨t,ht⟩:∃ t:Nat,A[k].t=(t:Int):=⟨A[k].t.toNat,by omega⟩;have hfw:f<w.length:=by omega
  have htw:t<w.length:=by omega
  have gf:w.getD f false=w[f]:=by rw[ym8,yma hfw];rfl
  have gt:w.getD t false=w[t]:=by rw[ym8,yma htw];rfl
  have hmk:mkU tT fT (w,b) A[k]=if w[t]=true/\w[f]=false then(w.set f true,true)else(w,b):=by unfold mkU;simp only[tT,fT,hf,ht,yno,gf,gt]
  rw[hmk]at hend;have hfN:f<N:=by omega
  have htN:t<N:=by omega
  simp[g.qc,e2S,mkSt,hlt,hlt2];refine zae hlt ?_;simp[ht,hf,htN,htw];refine⟨by omega,zae htw ?_⟩;cases bt:w[t]with
  | false =>
   rw[bt]at hend;simp only[yme,false_and,ymb]at hend;simp[e1];exact hend _ (Weak.to [1,3,5,27,28,29] [((1,0),1),((11,0),11)] (by simp[e2S,mkSt]))
  | true =>
   rw[bt]at hend;simp[hfN,hfw];refine⟨by omega,zae hfw ?_⟩;cases bf:w[f]with
   | true =>
    rw[bf]at hend;simp only[yqh,and_false,ymb]at hend;simp[e1];exact hend _ (Weak.to [1,3,5,27,28,29] [((1,0),1),((11,0),11)] (by simp[e2S,mkSt]))
   | false =>
    rw[bf]at hend;simp only[and_self,ym2]at hend;simp[hfN,hfw,e1];refine⟨by omega,zae hfw ?_⟩;rw[zyz];exact hend _ (Weak.to [1,3,5,27,28,29] [((1,0),1),((11,0),11)] (by simp[e2S,mkSt]))
 ·have:k=A.length:=by omega
  subst this;simp[g.qc,e2S,mkSt];exact hx' _ _ (by simpa[e2S,mkSt]using hx)
end Go.Ab
namespace Go.Ab
def cfB:List Bool->Nat
 | []=>0
 | b::l=>(!b).toNat+cfB l
theorem z5h:∀ (l:List Bool) (i:Nat),l.getD i true=false->cfB (l.set i true)+1=cfB l
 | [],i,h=>by simp at h
 | b::l,0,h=>by
  have:b=false:=by simpa using h
  subst this;simp[cfB];omega
 | b::l,i+1,h=>by have:=z5h l i (by simpa using h);simp only[List.set_cons_succ,cfB];omega
theorem zs3{l:List Bool}{i q:Nat}(hi:i<l.length):(l.set i true).getD q false=if i=q then true else l.getD q false:=by
 rw[ym8,ym8,yqp];by_cases h:i=q
 ·subst h;simp[hi]
 ·simp[h]
section
variable {src dst:GArc->Nat} {A:List GArc} {u:List Bool} {N:Nat} (hu:u.length=N) (hd:∀ x∈A,dst x<N)
include hu hd
theorem zqb:∀ k,k<=A.length->(∀ q,u.getD q false=true->(pasU src dst A u k).1.getD q false=true) /\
  ((pasU src dst A u k).2=false->(pasU src dst A u k).1=u/\∀ j,(h:j<A.length)->j<k->u.getD (src A[j]) false=true->u.getD (dst A[j]) false=true) /\
  ((pasU src dst A u k).2=true->cfB (pasU src dst A u k).1<cfB u)
 | 0,_=>⟨fun q h=>h,fun _=>⟨rfl,fun j _ h=>by omega⟩,fun h=>by cases h⟩
 | k+1,hk=>by
  obtain⟨h1,h2,h3⟩:=zqb k (by omega);have hlen:=zeq src dst A u k;have hdk:=hd _ (ym7 (show k<A.length by omega));rw[zg2 src dst A u (show k<A.length by omega)];generalize pasU src dst A u k=s at *
  obtain⟨w,b⟩:=s;simp only at h1 h2 h3 hlen;unfold mkU;by_cases hc:w.getD (src A[k]) false=true/\w.getD (dst A[k]) false=false
  ·rw[ym0 hc];simp only;have hset:=z5h w (dst A[k]) (by
    rw[ym8,yma (by omega)];have:=hc.2;rw[ym8,yma (by omega)]at this;exact this)
   refine⟨fun q h=>?_,fun h=>(by cases h),fun _=>?_⟩
   ·rw[zs3 (by omega)];split
    ·rfl
    ·exact h1 q h
   ·cases b with
    | false=>obtain⟨rfl,_⟩:=h2 rfl;omega
    | true=>have:=h3 rfl;omega
  ·rw[yl9 hc];simp only;refine⟨h1,fun hb=>?_,h3⟩;obtain⟨rfl,h4⟩:=h2 hb;refine⟨rfl,fun j hj hjk hs=>?_⟩;by_cases e:j=k
   ·subst e;cases hh:w.getD (dst A[j]) false with
    | true=>rfl
    | false=>exact absurd ⟨hs,hh⟩ hc
   ·exact h4 j hj (by omega) hs
theorem zjw{P:Nat->Prop}(hP:∀ x∈A,P (src x)->P (dst x))(h0:∀ q,u.getD q false=true->P q):∀ k,k<=A.length->∀ q,(pasU src dst A u k).1.getD q false=true->P q
 | 0,_,q,h=>h0 q h
 | k+1,hk,q,h=>by
  have ih:=zjw hP h0 k (by omega);have hlen:=zeq src dst A u k;have hm:=ym7 (show k<A.length by omega);have hdk:=hd _ hm;rw[zg2 src dst A u (show k<A.length by omega)]at h;generalize pasU src dst A u k=s at *
  obtain⟨w,b⟩:=s;simp only at ih hlen;unfold mkU at h;by_cases hc:w.getD (src A[k]) false=true/\w.getD (dst A[k]) false=false
  ·rw[ym0 hc]at h;simp only at h;rw[zs3 (by omega)]at h;split at h
   ·rename_i e;subst e;exact hP _ hm (ih _ hc.1)
   ·exact ih q h
  ·rw[yl9 hc]at h;exact ih q h
end
inductive Mk (src dst:GArc->Nat) (A:List GArc) (P0:Nat->Prop):Nat->Prop
 | base {q:Nat}:P0 q->Mk src dst A P0 q
 | step {x:GArc}:x∈A->Mk src dst A P0 (src x)->Mk src dst A P0 (dst x)
open Classical in
noncomputable def mkV(src dst:GArc->Nat)(A:List GArc)(P0:Nat->Prop)(N:Nat):List Bool:=mp N fun q=>decide (Mk src dst A P0 q)
open Classical in
theorem zxf{src dst:GArc->Nat}{A:List GArc}{P0:Nat->Prop}{N:Nat}{u:List Bool}(hu:u.length=N)(h0:∀ q,q<N->P0 q->u.getD q false=true)(hP:∀ q,P0 q->q<N)(hs:∀ q,u.getD q false=true->Mk src dst A P0 q)
  (hc:∀ x∈A,u.getD (src x) false=true->u.getD (dst x) false=true):u=mkV src dst A P0 N:=by
 have key:∀ q,Mk src dst A P0 q->u.getD q false=true:=fun q h=>by
  induction h with
  | base h=>exact h0 _ (hP _ h) h
  | step hx _ ih=>exact hc _ hx ih
 unfold mkV;refine yoq (by rw[zbr];exact hu) fun i h1 h2=>?_;rw[zdv];have e:u.getD i false=u[i]:=by rw[ym8,yma h1];rfl
 cases hb:u[i]with
 | true=>exact(decide_eq_true (hs i (e.trans hb))).symm
 | false=>exact(decide_eq_false fun h=>by have:=key i h;rw[e,hb]at this;cases this).symm
end Go.Ab
namespace Go.Ab
open Enc (enc)
attribute [local simp] zaj Opd.slots
def endP(A:GAuto)(N:Nat)(q:Nat):Prop:=q<N/\A.fin.getD q A.ring.zero≠A.ring.zero
noncomputable def endV(A:GAuto)(N:Nat):List Bool:=mkV tT fT A.arcs (endP A N) N
noncomputable def fin0(A:GAuto)(N k:Nat):List Bool:=mp N fun q=>if q<k then decide (A.fin.getD q A.ring.zero≠A.ring.zero)else false
theorem z8u(A:GAuto){N k:Nat}(hk:k<N):(fin0 A N k).set k (decide (A.fin.getD k A.ring.zero≠A.ring.zero))=fin0 A N (k+1):=by
 unfold fin0;rw[zmp];apply zdm;intro q hq;by_cases h:q=k
 ·subst h;simp
 ·by_cases h2:q<k
  ·rw[yl9 h,ym0 h2,ym0 (by omega)]
  ·rw[yl9 h,yl9 h2,yl9 (by omega)]
theorem zyd{A:GAuto}{N k q:Nat}(hq:q<N):(fin0 A N k).getD q false=if q<k then decide (A.fin.getD q A.ring.zero≠A.ring.zero)else false:=by
 have hl:q<(fin0 A N k).length:=by unfold fin0;rw[zbr];exact hq
 rw[ym8,yma hl];simp only[fin0,zdv,ynj]
theorem zq7(A:GAuto)(N k:Nat):(fin0 A N k).length=N:=zbr _ _
noncomputable def e1S(A:GAuto)(N k:Nat):St :=
 mkSt [(1,.ptr 1 0 0 0),(3,.own 11 0 0 N),(13,.p (.int .i64 N)),(14,.p (.int .i64 k))] [(1,⟨8,[.p (enc (zat A))]⟩),(11,⟨1,avs (fin0 A N k)⟩)]
def e3S(A:GAuto)(N:Nat)(s:List Bool × Bool):St :=
 mkSt [(1,.ptr 1 0 0 0),(3,.own 11 0 0 N),(5,.p (.bool s.2))] [(1,⟨8,[.p (enc (zat A))]⟩),(11,⟨1,avs s.1⟩)]
theorem z8w{A:GAuto}{N:Nat}(hA:CtrOk A N):Sp P F.lj [enc (zat A)] (.fresh 1 (ens (endV A N))):=by
 have hN:=hA.N1;have hst:(zat A).a.st=(N:Int):=hA.inN.st;have hva:(zat A).a=A:=rfl;have hal:=hA.al;have hr:∀ x∈A.arcs,(0<=x.f/\x.f<(N:Int))/\0<=x.t/\x.t<(N:Int):=fun x hx=>⟨hA.inN.f x hx,hA.t x hx⟩;have hd:∀ x∈A.arcs,fT x<N:=fun x hx=>by have:=hr x hx;unfold fT;omega
 refine Sp.vz c.lj fun _=>?_;simp[g.lj,hst];refine⟨by omega,?_⟩;refine zag (S:=fun k:Nat=>e1S A N k) (I:=fun k=>k<=N) (m:=fun k=>N - k) 0 (Weak.to [1,3,13,14] [((1,0),1),((11,0),11)] ?_) (by omega) ?_
 ·have:fin0 A N 0=List.replicate N false:=by unfold fin0;rw[<- zi3];apply zdm;intro q _;simp
  simp[e1S,mkSt,this,hst]
 rintro k hk R hn hr' hx;have e1:=i64s k;by_cases hlt:k<N
 ·have hki:k<(zat A).a.fin.length:=by show k<A.fin.length;rw[hA.fl];exact hlt
  have hset:=z8u A hlt;have hg:A.fin.getD k A.ring.zero=A.fin[k]'(by rw[hA.fl];exact hlt):=by rw[ym8,yma (by rw[hA.fl];exact hlt)];rfl
  have hes:=z4t (zat A) k hki hA.fsm;have hdec:decide ((zat A).a.fin[k]≠(zat A).a.ring.zero)=decide (A.fin.getD k A.ring.zero≠A.ring.zero):=by rw[hg];rfl
  rw[hdec]at hes;have hfl:=zq7 A N k;have hend:∀ st',Weak st' (e1S A N (k+1))->R .normal st':=fun st' h=>hn (k+1) st' h (by omega) (by omega);unfold e1S at hend ⊢;rw[<- hset]at hend;generalize fin0 A N k=u at *
  generalize decide (A.fin.getD k A.ring.zero≠A.ring.zero)=b at *
  simp[g.rk,mkSt,hlt];refine zab hes ?_;simp[hlt,e1,hfl];refine zae (by omega) ?_;rw[zyz];exact hend _ (Weak.to [1,3,13,14] [((1,0),1),((11,0),11)] (by simp[mkSt]))
 ·have:k=N:=by omega
  subst this;have h00:∀ q,q<k->endP A k q->(fin0 A k k).getD q false=true:=fun q hq h=>by rw[zyd hq,ym0 hq];exact decide_eq_true h.2
  have h01:∀ q,(fin0 A k k).getD q false=true->Mk tT fT A.arcs (endP A k) q:=fun q h=>by
   by_cases hq:q<k
   ·rw[zyd hq,ym0 hq]at h;exact .base ⟨hq,of_decide_eq_true h⟩
   ·rw[ym8,yo6 (by rw[zq7];omega)]at h;cases h
  have hfl:=zq7 A k k;simp[g.rk,e1S,mkSt];refine hx _ _ ?_;generalize fin0 A k k=u0 at *
  simp
  refine zag (S:=fun s:List Bool × Bool=>e3S A k s) (I:=fun s=>s.1.length=k/\(∀ q,q<k->endP A k q->s.1.getD q false=true)/\(∀ q,s.1.getD q false=true->Mk tT fT A.arcs (endP A k) q)/\(s.2=false->∀ x∈A.arcs,s.1.getD (tT x) false=true->s.1.getD (fT x) false=true))
   (m:=fun s=>2*cfB s.1+s.2.toNat) (u0,true) (Weak.to [1,3,5] [((1,0),1),((11,0),11)] (by simp[e3S,mkSt])) ⟨hfl,h00,h01,fun h=>by cases h⟩ ?_
  rintro⟨u,b⟩ ⟨u1,u2,u3,u4⟩ R2 hn2 hr2 hx2;simp only at u1 u2 u3 u4;cases b with
  | false =>
   have he:=zxf u1 u2 (fun q h=>h.1) u3 (u4 rfl);simp[g.rl,e3S,mkSt];refine hx2 _ _ ?_;rw[show endV A k=u from he.symm];simp[u1]
  | true =>
   simp[g.rl,e3S,mkSt];refine yec (v:=zat A) (A:=A.arcs) (N:=k) hr (by omega) u1 (Weak.to [1,3,5,27,28,29] [((1,0),1),((11,0),11)] (by simp[e2S,mkSt,hva])) ?_;obtain⟨p1,p2,p3⟩:=zqb (src:=tT) (dst:=fT) (A:=A.arcs) u1 hd A.arcs.length (ym9 _);have p4:=zjw (src:=tT) (dst:=fT) (A:=A.arcs) u1 hd (P:=Mk tT fT A.arcs (endP A k)) (fun x hx h=>.step hx h) u3 A.arcs.length (ym9 _);have p5:=zeq tT fT A.arcs u A.arcs.length;generalize pasU tT fT A.arcs u A.arcs.length=s at *
   simp[e2S,mkSt];refine hn2 s _ (Weak.to [1,3,5] [((1,0),1),((11,0),11)] (by simp[e3S,mkSt])) ⟨by omega,fun q hq h=>p1 q (u2 q hq h),p4,fun hb x hx h=>?_⟩ ?_
   ·obtain⟨q1,q2⟩:=p2 hb;obtain⟨j,hj,rfl⟩:=yor.1 hx;rw[q1]at h ⊢;exact q2 j hj hj h
   ·obtain⟨w,b⟩:=s;cases b with
    | false=>obtain⟨rfl,_⟩:=p2 rfl;simp
    | true=>have:=p3 rfl;simp only[Bool.toNat_true]at this ⊢;omega
def g2S(v:GView)(A:List GArc)(N:Nat)(E:List Bool)(s:List Bool × Bool)(k:Nat):St :=
 mkSt [(1,.ptr 1 0 0 0),(3,.own 11 0 0 N),(4,.own 15 0 0 N),(6,.p (.bool s.2)),(31,.p (.sl (ens A))),(32,.p (.int .i64 A.length)),(33,.p (.int .i64 k))] [(1,⟨8,[.p (enc v)]⟩),(11,⟨1,avs E⟩),(15,⟨1,avs s.1⟩)]
theorem ydx{v:GView}{A:List GArc}{N:Nat}{E:List Bool}(hA:∀ x∈A,(0<=x.f/\x.f<(N:Int))/\0<=x.t/\x.t<(N:Int))(hl:A.length<=100000){u:List Bool}(hu:u.length=N){Q:Exit->St->Prop}{ks:List Kt}{st:St}(hw:Weak st (g2S v A N E (u,false) 0))
  (hx:zb8 P 75 Q (zay 4 ks) 4 (g2S v A N E (pasU fT tT A u A.length) A.length)):vL P 75 Q g.p0 ks st:=by
 refine zag (S:=fun k:Nat=>g2S v A N E (pasU fT tT A u k) k) (I:=fun k=>k<=A.length) (m:=fun k=>A.length - k) 0 hw (by omega) ?_;rintro k hk R hn hr hx';have e1:=i64s k;by_cases hlt:k<A.length
 ·obtain⟨⟨f0,f1⟩,t0,t1⟩:=hA _ (ym7 hlt);have hlt2:(k:Int)<(A.length:Int):=by omega
  have hs:=zg2 fT tT A u hlt;have hlen:=zeq fT tT A u k;have hend:∀ st',Weak st' (g2S v A N E (pasU fT tT A u (k+1)) (k+1))->R .normal st':=fun st' h=>hn (k+1) st' h (by omega) (by omega);rw[hs]at hend;generalize pasU fT tT A u k=s at *
  obtain⟨w,b⟩:=s;simp only at hlen;obtain⟨f,hf⟩:∃ f:Nat,A[k].f=(f:Int):=⟨A[k].f.toNat,by omega⟩;obtain⟨t,ht⟩:∃ t:Nat,A[k].t=(t:Int):=⟨A[k].t.toNat,by omega⟩;have hfw:f<w.length:=by omega
  have htw:t<w.length:=by omega
  have gf:w.getD f false=w[f]:=by rw[ym8,yma hfw];rfl
  have gt:w.getD t false=w[t]:=by rw[ym8,yma htw];rfl
  have hmk:mkU fT tT (w,b) A[k]=if w[f]=true/\w[t]=false then(w.set t true,true)else(w,b):=by unfold mkU;simp only[tT,fT,hf,ht,yno,gf,gt]
  rw[hmk]at hend;have hfN:f<N:=by omega
  have htN:t<N:=by omega
  simp[g.p0,g2S,mkSt,hlt,hlt2];refine zae hlt ?_;simp[ht,hf,hfN,hfw];refine⟨by omega,zae hfw ?_⟩;cases bf:w[f]with
  | false =>
   rw[bf]at hend;simp only[yme,false_and,ymb]at hend;simp[e1];exact hend _ (Weak.to [1,3,4,6,31,32,33] [((1,0),1),((11,0),11),((15,0),15)] (by simp[g2S,mkSt]))
  | true =>
   rw[bf]at hend;simp[htN,htw];refine⟨by omega,zae htw ?_⟩;cases bt:w[t]with
   | true =>
    rw[bt]at hend;simp only[yqh,and_false,ymb]at hend;simp[e1];exact hend _ (Weak.to [1,3,4,6,31,32,33] [((1,0),1),((11,0),11),((15,0),15)] (by simp[g2S,mkSt]))
   | false =>
    rw[bt]at hend;simp only[and_self,ym2]at hend;simp[htN,htw,e1];refine⟨by omega,zae htw ?_⟩;rw[zyz];exact hend _ (Weak.to [1,3,4,6,31,32,33] [((1,0),1),((11,0),11),((15,0),15)] (by simp[g2S,mkSt]))
 ·have:k=A.length:=by omega
  subst this;simp[g.p0,g2S,mkSt];exact hx' _ _ (by simpa[g2S,mkSt]using hx)
def begP(A:GAuto)(N:Nat)(q:Nat):Prop:=q<N/\A.ini.getD q A.ring.zero≠A.ring.zero
noncomputable def begV(A:GAuto)(N:Nat):List Bool:=mkV fT tT A.arcs (begP A N) N
end Go.Ab
