/- Lemmas for the law AmbiguityCounts, part 32. No conditions. -/
import Derived.Test.YtcemegnnejaahaaGreatDoorDP31
set_option maxRecDepth 100000
set_option maxHeartbeats 4000000
set_option linter.all false
namespace Go.Ab
open Enc (enc)
attribute [local simp] zai Opd.slots
theorem zpf(n:Nat)(st:St)(s g:Nat):toPV st (n+1) (.ptr s g 0 0)=match st.obj s g with|some o=>(match o.es with|[e]=>(toPV st n e).map .ref|_=>none)|none=>none:=rfl
theorem zst{A:GAuto}{N:Nat}(hA:CtrOk A N){U:List Bool}(hU:U.length=N){bn en:PV}{B E:Nat->Bool}(hb:∀ q,q<N->FnSp bn [.int .i64 (q:Nat)] (.bool (B q)))(he:∀ q,q<N->FnSp en [.int .i64 (q:Nat)] (.bool (E q)))(hes:en.sz=1){sy:Nat}(hsy:sy<=64)(hsyA:A.sy=(sy:Nat)) :
  Sp P F.ct [enc (pth A U),bn,en] (.pure (resS (tw2 (tgT A U) N (fun s=>usf U s&&B s) E sy))):=by
 have hN:=hA.N1;have hsl:=zkk (nxg2 hA hU he hsy) (beg:=bg2 N fun s=>usf U s&&B s) ybi (by
  rw[<- zsd];have:=zz7 N (fun s=>usf U s&&B s) N;have h2:N*N<=64*64:=yfz hN hN;omega)
 have hst:A.st=(N:Int):=hA.inN.st;refine Sp.vz c.ct fun _=>?_;generalize hR:retP [(6,none),(7,none)] (.pure (resS (tw2 (tgT A U) N (fun s=>usf U s&&B s) E sy)))=R;have ev:(zas A).a=A:=rfl;simp[g.ct,pth,ev,hst];refine⟨hes,?_⟩;refine zaj (S:=fun a:Nat=>t2S A U bn en N (bgK N (fun s=>usf U s&&B s) a) a) (I:=fun a=>a<=N) (m:=fun a=>N - a) 0 (Weak.nl 10 77 1 rfl (Weak.to [1,3,5,8,9,10,18,19] [((3,0),3),((5,0),5),((8,0),8),((9,0),9),((77,0),10)] ?_)) (yg4 _) ?_
 ·simp[t2S,tHp,pth,nodA,bgK,natI,ev,hst]
 intro a haN R2 hn hr hx';have e1:=i64s a;have hlen:=zz7 N (fun s=>usf U s&&B s) a;have h64:a*N<=64*64:=yfz (by omega) hN;by_cases hlt:a<N
 ·have hend:∀ st',Weak st' (t2S A U bn en N (bgK N (fun s=>usf U s&&B s) (a+1)) (a+1))->R2 .normal st':=fun st' hh=>hn (a+1) st' hh (by omega) (by omega);rw[zun]at hend;simp[g.oe,t2S,tHp,hlt];refine z5c (A:=A) (en:=en) hN hU hb hlt (L:=bgK N (fun s=>usf U s&&B s) a) (by omega) (Weak.to [1,3,5,8,9,10,11,18,19,22,23] [((3,0),3),((5,0),5),((8,0),8),((9,0),9),((10,0),10)] (by simp[t1S,tHp,nodA])) ?_;simp[t1S,tHp,e1];exact hend _ (Weak.to [1,3,5,8,9,10,18,19] [((3,0),3),((5,0),5),((8,0),8),((9,0),9),((10,0),10)] (by simp[t2S,tHp,nodA]))
 ·have:a=N:=by omega
  subst this;rw[zsd];rw[zsd]at hlen;have w1:IntKind.i64.wrap (2*(a:Int))=((2*a:Nat):Int):=by rw[i64w (by omega) (by omega)];simp
  have w2:IntKind.i64.wrap (2*(a:Int)*(a:Int))=((2*a*a:Nat):Int):=by have h3:2*a*a<=2*64*64:=yfz (yh1 2 hN) hN;rw[show 2*(a:Int)*(a:Int)=((2*a*a:Nat):Int) by simp];exact i64w (by omega) (by omega)
  simp[g.oe,t2S,tHp];refine hx' _ _ ?_;simp[pth,ev,hsyA,w1,w2];have hgl:(natI (bg2 a fun s=>usf U s&&B s)).length=(bg2 a fun s=>usf U s&&B s).length:=zd4 _;unfold tw2 at hR;generalize sx (gl2 a E) (nx2 (tgT A U) a) sy (2*a*a) (bg2 a fun s=>usf U s&&B s)=r0 at *
  generalize (bg2 a fun s=>usf U s&&B s)=L at *
  refine zaa hsl ?_ ?_
  ·have htk:(natI L).take L.length=natI L:=yfw (by omega);simp[nodA,hgl,zpf,St.obj,St.site,look,htk,pth,ev,hsyA,nodF]
  ·rw[<- hR];cases r0 with
   | none=>simp[resS,zbh,ens]
   | some w=>simp[resS,zbh]
end Go.Ab
namespace Go.Ab
section
variable {U:Nat->Bool}
end
noncomputable def nzI(A:GAuto)(q:Nat):Bool:=decide (A.ini.getD q A.ring.zero≠A.ring.zero)
noncomputable def nzF(A:GAuto)(q:Nat):Bool:=decide (A.fin.getD q A.ring.zero≠A.ring.zero)
structure StOk (A:GAuto) (N:Nat):Prop where
 st:A.st=(N:Int)
 il:A.ini.length=N
 fl:A.fin.length=N
 f:∀ x∈A.arcs,0<=x.f/\x.f<(N:Int)
 t:∀ x∈A.arcs,0<=x.t/\x.t<(N:Int)
noncomputable def usB(A:GAuto)(N:Nat)(q:Nat):Bool:=(usV A N).getD q false
theorem z49{A:GAuto}{N q:Nat}:usB A N q=true ↔ q<N/\Mk tT fT A.arcs (endP A N) q/\Mk fT tT A.arcs (begP A N) q:=by
 classical
 unfold usB usV;by_cases hq:q<N
 ·rw[andV,yfj,yfm (by rw[zbf];exact hq),yhn,zeh,yf1 hq];have e1:(endV A N).getD q false=decide (Mk tT fT A.arcs (endP A N) q):=by unfold endV mkV;rw[yfj,yfm (by rw[zbf];exact hq),yhn,zeh]
  have e2:(begV A N).getD q false=decide (Mk fT tT A.arcs (begP A N) q):=by unfold begV mkV;rw[yfj,yfm (by rw[zbf];exact hq),yhn,zeh]
  rw[e1,e2];simp[hq]
 ·constructor
  ·intro h;rw[yfj,yi3 (by rw[zc3];omega)]at h;cases h
  ·intro h;exact absurd h.1 hq
theorem z61{a b c a' b' c':Int}:[a,b,c]<[a',b',c'] ↔ a<a'\/(a=a'/\(b<b'\/(b=b'/\c<c'))):=by simp[ykc]
end Go.Ab
namespace Go.Ab
open Enc (enc)
attribute [local simp] zai Opd.slots
theorem begF{A:GAuto}{N:Nat}(hil:A.ini.length=N)(hism:∀ w∈A.ini,w.sm 1048576):∀ q,q<N->FnSp (.bm F.a8 (enc (zas A))) [.int .i64 (q:Nat)] (.bool (nzI A q)):=by
 intro q hq;have hqi:q<(zas A).a.ini.length:=by show q<A.ini.length;omega
 have h:=zqz (zas A) q hqi hism;have hg:A.ini.getD q A.ring.zero=A.ini[q]'(by omega):=by rw[yfj,yfm (by omega)];rfl
 have e:decide ((zas A).a.ini[q]≠(zas A).a.ring.zero)=nzI A q:=by unfold nzI;rw[hg];rfl
 rw[e]at h;exact h
theorem endF{A:GAuto}{N:Nat}(hfl:A.fin.length=N)(hfsm:∀ w∈A.fin,w.sm 1048576):∀ q,q<N->FnSp (.bm F.bb (enc (zas A))) [.int .i64 (q:Nat)] (.bool (nzF A q)):=by
 intro q hq;have hqi:q<(zas A).a.fin.length:=by show q<A.fin.length;omega
 have h:=zy8 (zas A) q hqi hfsm;have hg:A.fin.getD q A.ring.zero=A.fin[q]'(by omega):=by rw[yfj,yfm (by omega)];rfl
 have e:decide ((zas A).a.fin[q]≠(zas A).a.ring.zero)=nzF A q:=by unfold nzF;rw[hg];rfl
 rw[e]at h;exact h
theorem z59{A:GAuto}{N:Nat}(hA:CtrOk A N)(hil:A.ini.length=N)(hism:∀ w∈A.ini,w.sm 1048576){U:List Bool}(hU:U.length=N){sy:Nat}(hsy:sy<=64)(hsyA:A.sy=(sy:Nat)) :
  Sp P F.io [enc (pth A U)] (.pure (resS (tw2 (tgT A U) N (fun s=>usf U s&&nzI A s) (nzF A) sy))):=by
 have h:=zst hA hU (begF hil hism) (endF hA.fl hA.fsm) rfl hsy hsyA;generalize tw2 (tgT A U) N (fun s=>usf U s&&nzI A s) (nzF A) sy=r0 at *
 have ev:(pth A U).v=zas A:=rfl;refine Sp.vz c.io fun _=>?_;simp[g.io];refine zaa h (by simp[ev]) ?_;cases r0 with
 | none=>simp[resS,ens]
 | some w=>simp[resS]
theorem z9g(q:Nat):∀ s,FnSp (.fn F.c9 [.ref (.int .i64 (q:Nat))]) [.int .i64 (s:Nat)] (.bool (slf q s)):=by intro s;show Sp P F.c9 [.int .i64 (s:Nat),.ref (.int .i64 (q:Nat))] (.pure (.bool (decide (s=q))));refine Sp.of_vmW c.c9 (by simp) (Weak.openRef (t:=1) rfl rfl) ?_;simp[g.c9];omega
theorem zq5(st:St)(n:Nat)(v:PV)(k:Nat):toPV st (n+1) (.cp v k 0)=some (.ref v):=rfl
theorem zzs(st:St)(n:Nat)(v:PV)(k:Nat):deps st (n+1) (.cp v k 0)=[]:=rfl
def resL:Option (Nat × List Int)->PV
 | some (q,w)=>.tup [.int .i64 (q:Nat),.sl (ens w),.bool true]
 | none=>.tup [.int .i64 0,.sl [],.bool false]
def lpC:GC :=
.seq (.reg [⟨some 14,.ibin .lss (.t 13) (.t 12),none⟩] [])
 (.seq (.cond (.t 14) [14] (.nop)
 (.ext 0))
 (.seq (.blk 1 (.seq (.cut (.reg [⟨some 15,.mv (.t 13),none⟩,⟨some 5,.alloc 1 (.p (.int .i64 0)),none⟩,⟨none,.store 1 (.t 5) (.t 15),none⟩] [[],[],[15]]))
 (.seq (.reg [⟨some 16,.mkfn F.c9 [.t 5],none⟩,⟨some 6,.mv (.t 16),none⟩] [[],[16]])
 (.seq (.reg [⟨some 18,.load 9 true (.t 1),none⟩,⟨some 19,.mv (.t 6),none⟩,⟨some 20,.mv (.t 6),none⟩,⟨some 21,.call F.ct [.t 18,.t 19,.t 20],none⟩,⟨some 17,.mv (.t 21),none⟩,⟨some 22,.extract (.t 17) 0,none⟩,⟨some 23,.extract (.t 17) 1,none⟩,⟨some 7,.mv (.t 22),none⟩,⟨some 8,.mv (.t 23),none⟩] [[],[],[6],[18,19,20],[21],[],[17],[22],[23]])
 (.seq (.reg [⟨some 24,.mv (.t 8),none⟩] [[8]])
 (.cond (.t 24) [24] (.seq (.reg [⟨some 25,.load 1 false (.t 5),none⟩,⟨some 26,.mv (.t 7),none⟩,⟨some 2,.mv (.t 25),none⟩,⟨some 3,.mv (.t 26),none⟩,⟨some 4,.mv (.c (.p (.bool true))),none⟩] [[1,5,12,13],[7],[25],[26]])
 (.ret))
 (.nop)))))))
 (.reg [⟨some 27,.ibin .add (.t 13) (.c (.p (.int .i64 1))),none⟩,⟨some 13,.mv (.t 27),none⟩] [[5,7,13],[27]])))
def lpD:GC :=
.seq (.reg [⟨some 1,.box 9 (.t 0),none⟩,⟨some 2,.mv (.c (.p (.int .i64 0))),none⟩,⟨some 3,.mv (.c .nil),none⟩,⟨some 4,.mv (.c (.p (.bool false))),none⟩] [[0],[2],[3],[4]])
 (.seq (.seq (.reg [⟨some 9,.faddr 0 (.t 1),none⟩,⟨some 10,.faddr 0 (.t 9),none⟩,⟨some 11,.faddr 3 (.t 10),none⟩,⟨some 12,.load 1 false (.t 11),none⟩,⟨some 13,.mv (.c (.p (.int .i64 0))),none⟩] [[],[9],[10],[11]])
 (.blk 0 (.loop lpC)))
 (.seq (.reg [⟨some 2,.mv (.c (.p (.int .i64 0))),none⟩,⟨some 3,.mv (.c .nil),none⟩,⟨some 4,.mv (.c (.p (.bool false))),none⟩] [[1,12,13]])
 (.ret)))
theorem clp:zac P F.cm=some ⟨28,1,lpD.er,[(2,none),(3,none),(4,none)]⟩:=by rw[c.cm];unfold g.cm;unfold g.pb;rfl
def lpS(A:GAuto)(U:List Bool)(N k:Nat):St:=mkSt [(1,.ptr 1 0 0 0),(12,.p (.int .i64 N)),(13,.p (.int .i64 k))] [(1,⟨9,[.p (enc (pth A U))]⟩)]
def lpS2(A:GAuto)(U:List Bool)(N k:Nat):St:=mkSt [(1,.ptr 1 0 0 0),(5,.cp (.int .i64 k) 1 0),(12,.p (.int .i64 N)),(13,.p (.int .i64 k))] [(1,⟨9,[.p (enc (pth A U))]⟩)]
theorem zyd{A:GAuto}{N:Nat}(hA:CtrOk A N){U:List Bool}(hU:U.length=N){sy:Nat}(hsy:sy<=64)(hsyA:A.sy=(sy:Nat)) :
  Sp P F.cm [enc (pth A U)] (.pure (resL (lpG (tgT A U) N (usf U) sy (List.range' 0 N)))):=by
 have hN:=hA.N1;have hst:(pth A U).v.a.st=(N:Int):=hA.inN.st;generalize hr0:lpG (tgT A U) N (usf U) sy (List.range' 0 N)=r0;refine Sp.of_vm' clp (by simp) fun _=>?_;simp[lpD,hst];refine zaj (S:=fun k:Nat=>lpS A U N k) (I:=fun k=>k<=N/\lpG (tgT A U) N (usf U) sy (List.range' k (N - k))=r0) (m:=fun k=>N - k) 0 (Weak.to [1,12,13] [((1,0),1)] (by simp[lpS,mkSt,hst])) ⟨yg4 _,hr0⟩ ?_;rintro k ⟨hk,hc⟩ R hn hr hx;have e1:=i64s k;by_cases hlt:k<N
 ·have hrg:List.range' k (N - k)=k::List.range' (k+1) (N - (k+1)):=by rw[show N - k=(N - (k+1))+1 by omega,yix]
  rw[hrg]at hc;simp only[lpG]at hc;have htw:=zst hA hU (B:=slf k) (E:=slf k) (fun q _=>z9g k q) (fun q _=>z9g k q) rfl hsy hsyA;generalize tw2 (tgT A U) N (fun s=>usf U s&&slf k s) (slf k) sy=t0 at *
  simp[lpC,lpS,mkSt,hlt];refine z8s (S:=fun _:Unit=>lpS2 A U N k) (I:=fun _=>True) (fun R1 hn1 hr1 hx1=>?_) (fun _ _=>?_)
  ·simp;exact hn1 () _ ((Weak.freeze (t:=5) rfl).trans ((Weak.openRef (t:=5) rfl rfl).trans (Weak.to [1,5,12,13] [((1,0),1)] (by simp[lpS2,mkSt,killAll,zbe])))) trivial
  simp[lpS2,mkSt];refine zaa htw (by simp[zq5]) ?_;cases t0 with
  | none =>
   simp only at hc;simp[resS,killAll,zq5,zzs,e1];exact hn (k+1) _ (Weak.to [1,12,13] [((1,0),1)] (by simp[lpS,mkSt])) ⟨by omega,hc⟩ (by omega)
  | some w =>
   simp only at hc;subst hc;simp[resS,killAll,zq5,zzs];refine hr _ ?_;simp[resL]
 ·have:k=N:=by omega
  subst this;rw[yil]at hc;simp only[List.range'_zero,lpG]at hc;subst hc;simp[lpC,lpS,mkSt];refine hx _ _ ?_;simp[resL,ens]
def z3k(d N x y:Nat):List AV:=[.ptr 900006 d 0 0,.cp (.int .i64 (x:Nat)) 1 0,.cp (.int .i64 (N:Nat)) 1 0,.cp (.int .i64 (y:Nat)) 1 0]
def z3l(A:GAuto)(U:List Bool)(d N:Nat)(l:Int)(k x:Nat):List AV:=[.cp (enc (pth A U)) 9 0,.cp (.int .i64 (k:Nat)) 1 0,.cp (.int .i64 (N:Nat)) 1 0,.cp (.int .i64 l) 1 0,.ptr 900006 d 0 0,.cp (.int .i64 (x:Nat)) 1 0]
def z3m(A:GAuto)(U:List Bool)(d N:Nat)(l:Int)(k:Nat):List AV:=[.cp (enc (pth A U)) 9 0,.cp (.int .i64 (k:Nat)) 1 0,.cp (.int .i64 (N:Nat)) 1 0,.cp (.int .i64 l) 1 0,.ptr 900006 d 0 0]
theorem wnat(m:Nat)(h:m<=8192):IntKind.i64.wrap (m:Int)=(m:Int):=i64w (by omega) (by omega)
theorem yde(m n:Nat):(m:Int).tmod (n:Int)=((m % n:Nat):Int):=by rw[yj1 (by omega),<- Int.natCast_emod]
theorem zrp{N:Nat}(hN:N<=16):N*N*N<=4096:=yfz (yfz hN hN) hN
theorem trpw{N x y z:Nat}(hN:N<=16)(hx:x<N)(hy:y<N)(hz:z<N) :
  IntKind.i64.wrap ((x:Int)*N)=((x*N:Nat):Int)/\IntKind.i64.wrap (((x*N:Nat):Int)+y)=((x*N+y:Nat):Int)/\IntKind.i64.wrap (((x*N+y:Nat):Int)*N)=(((x*N+y)*N:Nat):Int)/\IntKind.i64.wrap ((((x*N+y)*N:Nat):Int)+z)=(((x*N+y)*N+z:Nat):Int):=by
 have h1:=znk hx hy hz;have h2:=zrp hN;have h3:x*N+y<=(x*N+y)*N:=yiw _ (by omega);refine⟨?_,?_,?_,?_⟩
 ·rw[<- Int.natCast_mul];exact i64w (by omega) (by omega)
 ·rw[<- Int.natCast_add];exact i64w (by omega) (by omega)
 ·rw[<- Int.natCast_mul];exact i64w (by omega) (by omega)
 ·rw[<- Int.natCast_add];exact i64w (by omega) (by omega)
theorem vtrD{N:Nat}(hN:N<=16){U:List Bool}(hU:U.length=N){gl:PV}{goal:Nat->Bool}(hg:∀ n,n<N*N*N->FnSp gl [.int .i64 (n:Nat)] (.bool (goal n))){d x y:Nat}(hx:x<N)(hy:y<N) :
  Vtr (N*N*N) gl true F.jp (z3k d N x y) (Vin (N*N*N) d) (fun v z=>v.vis goal ((x*N+y)*N+z)) U where
 ok:=rfl
 nu:=rfl
 nx v x h _ _:=zq1 goal _ h
 sp v z h hb _:=by
  have hsz:=zrp hN;have hzN:z<N:=by omega
  have hlt:=znk hx hy hzN;obtain⟨e1,e2,e3,e4⟩:=trpw hN hx hy hzN;generalize (x*N+y)*N+z=n at *
  have hvs:=zka hg h.sl (by have:=h.us;omega) hlt true;have hvd:=h.d;subst hvd;have hv:=z31 v.d;refine HSp.of_mr c.jp (by simp[z3k]) (zfq _ _ _ _) rfl ?_ fun A0 hA0=>MR.of_vm ?_
  ·show(true&&hpOk ks7 (hpZ (N*N*N) gl _ true))=true;rw[zbn];rfl
  simp[-Int.natCast_mul,-Int.natCast_add,g.jp,za5,z3k,hpZ,hv,e1,e2,e3,e4];simp[visV];refine zb7 hvs (by simp[visC,zb0]) ?_ rfl ?_ ?_
  ·simp[zbb,St.site,look,hpZ]
  ·have h1:=zbn (N*N*N) gl v true;have h2:=zbn (N*N*N) gl (v.vis goal n) true;show(zam ks7 _&&hpOk ks7 (hpZ (N*N*N) gl v true)&&zdi ks7 (.av (.tup []))&&hpOk ks7 (hpZ (N*N*N) gl (v.vis goal n) true))=true;rw[h1,h2];rfl
  simp[visC];refine⟨.inr rfl,_,Weak.refl _,[],rfl,rfl,?_⟩;simp[zbb,St.site,look,hpZ,zcd]
theorem vtrC{A:GAuto}{N:Nat}(hA:CtrOk A N)(hN:N<=16){U:List Bool}(hU:U.length=N){gl:PV}{goal:Nat->Bool}(hg:∀ n,n<N*N*N->FnSp gl [.int .i64 (n:Nat)] (.bool (goal n))){d k x:Nat}(hx:x<N)(hk:k<N*N*N)(l:Int) :
  Vtr (N*N*N) gl true F.jo (z3l A U d N l k x) (Vin (N*N*N) d) (fun v y=>(tgS A U (k % N) l).foldl (fun v z=>v.vis goal ((x*N+y)*N+z)) v) U where
 ok:=rfl
 nu:=rfl
 nx v y h ha _:=by have:=zkb goal ((tgS A U (k % N) l).map fun z=>(x*N+y)*N+z) h;unfold Sv.vs at this;rw[List.foldl_map]at this;exact this
 sp v y h hy _:=by
  have h0:0<N:=by omega
  have hyN:y<N:=by omega
  have hqN:k % N<N:=ygq _ h0;have hto:=zpe hA hU (vtrD hN hU hg hx hyN (d:=d)) hqN l h;have hvd:=h.d;have hk2:=zrp hN;have e3:(k:Int).tmod N=((k % N:Nat):Int):=by rw[yj1 (by omega),<- Int.natCast_emod]
  generalize k % N=B at *
  have hN0:¬ N=0:=by omega
  generalize hv2:(tgS A U B l).foldl (fun v z=>v.vis goal ((x*N+y)*N+z)) v=v2 at *
  refine HSp.of_mr c.jo (by simp[z3l]) (zfq _ _ _ _) rfl ?_ fun A0 hA0=>?_
  ·show(true&&hpOk ks7 (hpZ (N*N*N) gl _ true))=true;rw[zbn];rfl
  unfold g.jo;refine MR.gseq ?_;simp[za5,z3l,hpZ];have hf2:=zhf v.m v.x.f;have hf3:=zf3 v.d true;have hf4:=zhg v.m v.x.f
  refine MR.weak (st1:=⟨[(1,.cp (enc (pth A U)) 9 0),(2,.cp (.int .i64 (k:Nat)) 1 0),(3,.cp (.int .i64 (N:Nat)) 1 0),(4,.cp (.int .i64 l) 1 0),(5,.ptr 900006 d 0 0),(6,.cp (.int .i64 x) 1 0),(7,.cp (.int .i64 y) 1 0)],hpZ (N*N*N) gl v true++[(DEAD,[none])]⟩)
   ((Weak.freeze (t:=7) rfl).trans ((Weak.openRef (t:=7) rfl rfl).trans (Weak.toF [1,2,3,4,5,6,7] ks7 [] ?_))) ?_
  ·simp[hpZ,killAll,zbe];exact⟨hf4,fun x hx=>yfp.1 hf2 x hx,fun x hx=>yfp.1 hf3 x hx⟩
  refine MR.of_vm ?_;simp[hpZ,pth,e3,hN0];refine zb7 hto (by simp[z3k,zb0]) ?_ rfl ?_ ?_
  ·simp[zbb,St.site,look,hpZ]
  ·have h1:=zbn (N*N*N) gl v true;have h2:=zbn (N*N*N) gl v2 true;show(zam ks7 _&&hpOk ks7 (hpZ (N*N*N) gl v true)&&zdi ks7 (.av (.tup []))&&hpOk ks7 (hpZ (N*N*N) gl v2 true))=true;rw[h1,h2];rfl
  simp;refine⟨.inr rfl,_,Weak.refl _,[],rfl,rfl,?_⟩;simp[zbb,St.site,look,hpZ,zcd]
theorem vtrB{A:GAuto}{N:Nat}(hA:CtrOk A N)(hN:N<=16){U:List Bool}(hU:U.length=N){gl:PV}{goal:Nat->Bool}(hg:∀ n,n<N*N*N->FnSp gl [.int .i64 (n:Nat)] (.bool (goal n))){d k:Nat}(hk:k<N*N*N)(l:Int) :
  Vtr (N*N*N) gl true F.jn (z3m A U d N l k) (Vin (N*N*N) d) (fun v x=>(tgS A U (k / N % N) l).foldl (fun v y=>(tgS A U (k % N) l).foldl (fun v z=>v.vis goal ((x*N+y)*N+z)) v) v) U where
 ok:=rfl
 nu:=rfl
 nx v x h ha _:=by have:=zkb goal ((tgS A U (k / N % N) l).flatMap fun y=>(tgS A U (k % N) l).map fun z=>(x*N+y)*N+z) h;unfold Sv.vs at this;rw[List.foldl_flatMap]at this;simpa only[List.foldl_map]using this
 sp v x h hx _:=by
  have h0:0<N:=by omega
  have hxN:x<N:=by omega
  have hqN:k / N % N<N:=ygq _ h0;have hto:=zpe hA hU (vtrC hA hN hU hg hxN hk l (d:=d)) hqN l h;have hvd:=h.d;have hk2:=zrp hN;have hkN:k / N<=k:=yhv _ _;have e1:IntKind.i64.wrap ((k:Int) / (N:Int))=((k / N:Nat):Int):=by rw[<- Int.natCast_ediv];exact wnat _ (by omega)
  have e3:((k / N:Nat):Int).tmod N=((k / N % N:Nat):Int):=yde _ _;generalize hB:k / N % N=B at *
  generalize hK:k / N=K2 at *
  have hN0:¬ N=0:=by omega
  generalize hv2:(tgS A U B l).foldl (fun v y=>(tgS A U (k % N) l).foldl (fun v z=>v.vis goal ((x*N+y)*N+z)) v) v=v2 at *
  refine HSp.of_mr c.jn (by simp[z3m]) (zfq _ _ _ _) rfl ?_ fun A0 hA0=>?_
  ·show(true&&hpOk ks7 (hpZ (N*N*N) gl _ true))=true;rw[zbn];rfl
  unfold g.jn;refine MR.gseq ?_;simp[za5,z3m,hpZ];have hf2:=zhf v.m v.x.f;have hf3:=zf3 v.d true;have hf4:=zhg v.m v.x.f
  refine MR.weak (st1:=⟨[(1,.cp (enc (pth A U)) 9 0),(2,.cp (.int .i64 (k:Nat)) 1 0),(3,.cp (.int .i64 (N:Nat)) 1 0),(4,.cp (.int .i64 l) 1 0),(5,.ptr 900006 d 0 0),(6,.cp (.int .i64 x) 1 0)],hpZ (N*N*N) gl v true++[(DEAD,[none])]⟩)
   ((Weak.freeze (t:=6) rfl).trans ((Weak.openRef (t:=6) rfl rfl).trans (Weak.toF [1,2,3,4,5,6] ks7 [] ?_))) ?_
  ·simp[hpZ,killAll,zbe];exact⟨hf4,fun x hx=>yfp.1 hf2 x hx,fun x hx=>yfp.1 hf3 x hx⟩
  refine MR.of_vm ?_;simp[hpZ,pth,e1,e3,hN0];refine zb7 hto (by simp[z3l,zb0]) ?_ rfl ?_ ?_
  ·simp[zbb,St.site,look,hpZ]
  ·have h1:=zbn (N*N*N) gl v true;have h2:=zbn (N*N*N) gl v2 true;show(zam ks7 _&&hpOk ks7 (hpZ (N*N*N) gl v true)&&zdi ks7 (.av (.tup []))&&hpOk ks7 (hpZ (N*N*N) gl v2 true))=true;rw[h1,h2];rfl
  simp;refine⟨.inr rfl,_,Weak.refl _,[],rfl,rfl,?_⟩;simp[zbb,St.site,look,hpZ,zcd]
theorem z2l(goal:Nat->Bool)(T:Nat->Nat->List Nat)(N k l:Nat)(v:Sv):(T (k / N / N) l).foldl (fun v x=>(T (k / N % N) l).foldl (fun v y=>(T (k % N) l).foldl (fun v z=>v.vis goal ((x*N+y)*N+z)) v) v) v=v.vs goal (nx3 T N k l):=by
 unfold nx3 Sv.vs;rw[List.foldl_flatMap]
 congr 1
 funext v x;rw[List.foldl_flatMap]
 congr 1
 funext v y;rw[List.foldl_map]
theorem zx0{A:GAuto}{N:Nat}(hA:CtrOk A N)(hN:N<=16){U:List Bool}(hU:U.length=N){gl:PV}{goal:Nat->Bool}(hg:∀ n,n<N*N*N->FnSp gl [.int .i64 (n:Nat)] (.bool (goal n))){k:Nat}(hk:k<N*N*N)(l:Nat){v:Sv}(h:Vin (N*N*N) v.d v) :
  HSp P F.fj [.p (.int .i64 k),.p (.int .i64 l),visV,.p (.ref (enc (pth A U))),.p (.ref (.int .i64 N))] (hpZ (N*N*N) gl v false) (.tup []) (hpZ (N*N*N) gl (v.vs goal (nx3 (tgT A U) N k l)).up false):=by
 have h0:0<N:=by
  rcases yha N with h|h
  ·subst h;simp at hk
  ·exact h
 have haN:k / N / N<N:=by rw[yhb];exact Nat.div_lt_of_lt_mul hk
 have hto:=zpe hA hU (vtrB hA hN hU hg hk (l:Int) (d:=v.d)) haN (l:Int) h;have hfo:=z2l goal (tgT A U) N k l v;have hd2:=zq9 goal (nx3 (tgT A U) N k l) v;rw[<- hfo]at hd2 ⊢
 change HSp P F.aj _ _ _ (hpZ (N*N*N) gl ((tgT A U (k / N / N) l).foldl (fun v x=>(tgT A U (k / N % N) l).foldl (fun v y=>(tgT A U (k % N) l).foldl (fun v z=>v.vis goal ((x*N+y)*N+z)) v) v) v) true)at hto
 clear hfo;generalize (tgT A U (k / N / N) l).foldl (fun v x=>(tgT A U (k / N % N) l).foldl (fun v y=>(tgT A U (k % N) l).foldl (fun v z=>v.vis goal ((x*N+y)*N+z)) v) v) v=v2 at *
 have hk2:=zrp hN;have hkN:k / N<=k:=yhv _ _;have e1:IntKind.i64.wrap ((k:Int) / (N:Int))=((k / N:Nat):Int):=by rw[<- Int.natCast_ediv];exact wnat _ (by omega)
 have e2:IntKind.i64.wrap (((k / N:Nat):Int) / (N:Int))=((k / N / N:Nat):Int):=by rw[<- Int.natCast_ediv];exact wnat _ (yf7 (yhv _ _) (by omega))
 generalize k / N / N=B at *
 generalize k / N=K2 at *
 have hN0:¬ N=0:=by omega
 have hf2:=zhf v.m v.x.f;have hf4:=zhg v.m v.x.f;refine HSp.of_mr c.fj (by simp) (zfq _ _ _ _) rfl ?_ fun A0 hA0=>?_
 ·show(true&&hpOk ks7 (hpZ (N*N*N) gl _ false))=true;rw[zbn];rfl
 unfold g.fj;refine MR.gseq ?_;simp[za5,hpZ,visV]
 refine MR.weak (st1:=⟨[(3,.cp (enc (pth A U)) 9 0),(4,.cp (.int .i64 (N:Nat)) 1 0),(5,.cp (.int .i64 k) 1 0),(6,.cp (.int .i64 l) 1 0),(7,.ptr 900006 v.d 0 0)],hpZ (N*N*N) gl v true++[(DEAD,[none])]⟩)
  ((Weak.freeze (t:=5) rfl).trans ((Weak.freeze (t:=6) rfl).trans ((Weak.openRef (t:=3) rfl rfl).trans ((Weak.openRef (t:=4) rfl rfl).trans ((Weak.openRef (t:=5) rfl rfl).trans ((Weak.openRef (t:=6) rfl rfl).trans
   (zfj [3,4,5,6,7] [(900000,[(900000,0)]),(900001,[(900001,0)]),(900002,[(900002,0)]),(900003,[(900003,0)]),(900004,[(900004,0)]),(900005,[(900005,0)]),(900006,[(900006,0),(7,0)])] ?_
    (fun σ => σ 900000 0=(900000,0) /\ σ 900001 0=(900001,0) /\ σ 900002 0=(900002,0) /\ σ 7 0=(900006,v.d) /\ σ 900004 0=(900004,0) /\ σ 900005 0=(900005,0)/\∀ g,σ 900003 g=(900003,g)) ?_ ?_))))))) ?_
 ·simp[ze4,zl6,zdy,PINB,DEAD,zct,St.put,killAll,St.kill,zbe]
 ·simp[sgP,zfr,zdm,St.site,look,St.put,killAll,St.kill,zbe,zso]
 ·rintro σ ⟨s1,s2,s3,s4,s5,s6,s7⟩;have e:=zet σ v.x.s;simp[hpP,catS,sub,subO,subL,St.get,look,St.site,hpZ,St.put,killAll,St.kill,zbe,s2,s4,e,zy4 s7,zy2,zsn,zsq s1 s3 s5 s6,zsp]
 refine MR.of_vm ?_;simp[hpZ,pth,e1,e2,hN0];refine zb7 hto (by simp[z3m,zb0]) ?_ rfl ?_ ?_
 ·simp[zbb,St.site,look,hpZ]
 ·have h1:=zbn (N*N*N) gl v true;have h2:=zbn (N*N*N) gl v2 true;show(zam ks7 _&&hpOk ks7 (hpZ (N*N*N) gl v true)&&zdi ks7 (.av (.tup []))&&hpOk ks7 (hpZ (N*N*N) gl v2 true))=true;rw[h1,h2];rfl
 simp;refine⟨.inr rfl,_,Weak.kill _ 900006 v2.d,[],rfl,rfl,?_⟩;exact zng
theorem zt1{N a b:Nat}(hN:N<=16)(ha:a<N)(hb:b<N)(k:Nat):FnSp (.fn F.dg [.ref (.int .i64 (a:Nat)),.ref (.int .i64 (N:Nat)),.ref (.int .i64 (b:Nat))]) [.int .i64 (k:Nat)] (.bool (decide (k=(a*N+b)*N+b))):=by
 obtain⟨e1,e2,e3,e4⟩:=trpw hN ha hb hb;show Sp P F.dg [.int .i64 (k:Nat),.ref (.int .i64 (a:Nat)),.ref (.int .i64 (N:Nat)),.ref (.int .i64 (b:Nat))] _;generalize (a*N+b)*N+b=n at *
 refine Sp.of_vmW c.dg (by simp) ((Weak.openRef (t:=1) rfl rfl).trans ((Weak.openRef (t:=2) rfl rfl).trans (Weak.openRef (t:=3) rfl rfl))) ?_;simp[-Int.natCast_mul,-Int.natCast_add,g.dg,e1,e2,e3,e4];omega
theorem nxg3{A:GAuto}{N:Nat}(hA:CtrOk A N)(hN:N<=16){U:List Bool}(hU:U.length=N){a b:Nat}(ha:a<N)(hb:b<N){sy:Nat}(hsy:sy<=64) :
  NxG (N*N*N) sy (.fn F.dg [.ref (.int .i64 (a:Nat)),.ref (.int .i64 (N:Nat)),.ref (.int .i64 (b:Nat))]) (fun k=>decide (k=(a*N+b)*N+b)) (nx3 (tgT A U) N) F.fj [.ref (enc (pth A U)),.ref (.int .i64 N)] where
 sz:=by have:=zrp hN;omega
 sy6:=hsy
 gg:=fun n _=>zt1 hN ha hb n
 gs:=rfl
 nx:=fun v k l h hk _ _=>zx0 hA hN hU (fun n _=>zt1 hN ha hb n) hk l h
 lt:=fun k l=>z9z (z35 hA hU) k l
theorem z0v{A:GAuto}{N:Nat}(hA:CtrOk A N)(hN:N<=16){U:List Bool}(hU:U.length=N){a b:Nat}(ha:a<N)(hb:b<N){sy:Nat}(hsy:sy<=64)(hsyA:A.sy=(sy:Nat)) :
  Sp P F.jd [enc (pth A U),.int .i64 (a:Nat),.int .i64 (b:Nat)] (.pure (resS (th3 (tgT A U) N a b sy))):=by
 have hst:A.st=(N:Int):=hA.inN.st;have ev:(zas A).a=A:=rfl;obtain⟨e1,e2,e3,e4⟩:=trpw hN ha ha hb;have hsl:=zkk (nxg3 hA hN hU ha hb hsy) (beg:=[(a*N+a)*N+b]) (fun n hn=>by rw[ygj.1 hn];exact znk ha ha hb) (by simp);have hn3:=zrp hN;have hn2:N*N<=16*16:=yfz hN hN;have w1:IntKind.i64.wrap ((N:Int)*N)=((N*N:Nat):Int):=by rw[<- Int.natCast_mul];exact wnat _ (by omega)
 have w2:IntKind.i64.wrap (((N*N:Nat):Int)*N)=((N*N*N:Nat):Int):=by rw[<- Int.natCast_mul];exact wnat _ (by omega)
 unfold th3;rw[show natI [(a*N+a)*N+b]=[(((a*N+a)*N+b:Nat):Int)] from rfl]at hsl;generalize sx (fun k=>decide (k=(a*N+b)*N+b)) (nx3 (tgT A U) N) sy (N*N*N) [(a*N+a)*N+b]=r0 at *
 generalize (a*N+a)*N+b=n at *
 refine Sp.vz c.jd fun _=>?_;generalize hR:retP [(6,none),(7,none)] (.pure (resS r0))=R;simp[-Int.natCast_mul,-Int.natCast_add,g.jd,pth,ev,hst,hsyA,e1,e2,e3,e4,w1,w2];refine zaa hsl ?_ ?_
 ·simp[-Int.natCast_mul,-Int.natCast_add,zpf,St.obj,St.site,look,pth,ev,hsyA,hst]
 ·rw[<- hR];cases r0 with
  | none=>simp[resS,zbh,ens]
  | some w=>simp[resS,zbh]
def s1S(A:GAuto)(U:List Bool)(N a b:Nat):St:=mkSt [(1,.ptr 1 0 0 0),(6,.p (.int .i64 (a:Nat))),(13,.p (.int .i64 N)),(14,.p (.int .i64 (a:Nat))),(20,.p (.int .i64 N)),(21,.p (.int .i64 (b:Nat)))] [(1,⟨9,[.p (enc (pth A U))]⟩)]
def s2S(A:GAuto)(U:List Bool)(N a:Nat):St:=mkSt [(1,.ptr 1 0 0 0),(13,.p (.int .i64 N)),(14,.p (.int .i64 (a:Nat)))] [(1,⟨9,[.p (enc (pth A U))]⟩)]
def s1R(A:GAuto)(U:List Bool)(a b:Nat)(w:List Int):St:=mkSt [(2,.p (.int .i64 (a:Nat))),(3,.p (.int .i64 (b:Nat))),(4,.p (.sl (ens w))),(5,.p (.bool true))] [(1,⟨9,[.p (enc (pth A U))]⟩)]
theorem z5n{A:GAuto}{N:Nat}(hA:CtrOk A N)(hN:N<=16){U:List Bool}(hU:U.length=N){a:Nat}(ha:a<N){sy:Nat}(hsy:sy<=64)(hsyA:A.sy=(sy:Nat))
  {Q:Exit->St->Prop} {ks:List Kt} {st:St} (hw:Weak st (s1S A U N a 0))
  (hq:∀ b w,stI (tgT A U) N (usf U) sy a (List.range' 0 N)=some (b,w)->Q .ret (s1R A U a b w))
  (hx:stI (tgT A U) N (usf U) sy a (List.range' 0 N)=none->zb6 P 56 Q (zaw 2 ks) 2 (s1S A U N a N)):vL P 56 Q g.mo ks st:=by
 generalize hr0:stI (tgT A U) N (usf U) sy a (List.range' 0 N)=r0 at *
 refine zaj (S:=fun b:Nat=>s1S A U N a b) (I:=fun b=>b<=N/\stI (tgT A U) N (usf U) sy a (List.range' b (N - b))=r0) (m:=fun b=>N - b) 0 hw ⟨yg4 _,hr0⟩ ?_;rintro b ⟨hbN,hc⟩ R hn hr hx';have e1:=i64s b;by_cases hlt:b<N
 ·have hrg:List.range' b (N - b)=b::List.range' (b+1) (N - (b+1)):=by rw[show N - b=(N - (b+1))+1 by omega,yix]
  rw[hrg]at hc;simp only[stI]at hc;have hend:stI (tgT A U) N (usf U) sy a (List.range' (b+1) (N - (b+1)))=r0->∀ st',Weak st' (s1S A U N a (b+1))->R .normal st':=fun h st' hh=>hn (b+1) st' hh ⟨by omega,h⟩ (by omega);have haU:a<U.length:=by omega
  have hbU:b<U.length:=by omega
  have ga:usf U a=U[a]:=by unfold usf;rw[yfj,yfm haU];rfl
  have gb:usf U b=U[b]:=by unfold usf;rw[yfj,yfm hbU];rfl
  rw[ga,gb]at hc;have hth:=z0v hA hN hU ha hlt hsy hsyA;generalize th3 (tgT A U) N a b sy=t0 at *
  simp[g.mo,s1S,mkSt,hlt,pth];by_cases hab:a=b
  ·rw[yf1 (.inl hab)]at hc;subst hab;simp[e1];exact hend hc _ (Weak.to [1,6,13,14,20,21] [((1,0),1)] (by simp[s1S,mkSt,pth]))
  have habI:¬ (a:Int)=b:=by omega
  simp[habI];refine zad haU ?_;cases hua:U[a]with
  | false =>
   rw[hua,yf1 (.inr (.inl rfl))]at hc;simp[e1];exact hend hc _ (Weak.to [1,6,13,14,20,21] [((1,0),1)] (by simp[s1S,mkSt,pth]))
  | true =>
  simp;refine zad hbU ?_;cases hub:U[b]with
  | false =>
   rw[hub,yf1 (.inr (.inr rfl))]at hc;simp[e1];exact hend hc _ (Weak.to [1,6,13,14,20,21] [((1,0),1)] (by simp[s1S,mkSt,pth]))
  | true =>
  rw[hua,hub,yf0 (by simp[hab])]at hc;simp;refine zaa hth (by simp[pth]) ?_;cases t0 with
  | none =>
   simp only at hc;simp[resS,killAll,e1];exact hend hc _ (Weak.to [1,6,13,14,20,21] [((1,0),1)] (by simp[s1S,mkSt,pth]))
  | some w =>
   simp only at hc;subst hc;simp[resS,killAll];refine hr _ ?_;simpa[s1R,mkSt,pth]using hq b w rfl
 ·have:b=N:=by omega
  subst this;rw[Nat.sub_self]at hc;simp only[List.range'_zero,stI]at hc;subst hc;simp[g.mo,s1S,mkSt];refine hx' _ _ ?_;simpa[s1S,mkSt]using hx rfl
def zwz:Option (Nat × Nat × List Int)->PV
 | some (a,b,w)=>.tup [.int .i64 (a:Nat),.int .i64 (b:Nat),.sl (ens w),.bool true]
 | none=>.tup [.int .i64 0,.int .i64 0,.sl [],.bool false]
theorem z5i{A:GAuto}{N:Nat}(hA:CtrOk A N)(hN:N<=16){U:List Bool}(hU:U.length=N){sy:Nat}(hsy:sy<=64)(hsyA:A.sy=(sy:Nat)) :
  Sp P F.ip [enc (pth A U)] (.pure (zwz (stO (tgT A U) N (usf U) sy (List.range' 0 N)))):=by
 have hst:(pth A U).v.a.st=(N:Int):=hA.inN.st;generalize hr0:stO (tgT A U) N (usf U) sy (List.range' 0 N)=r0;refine Sp.vz c.ip fun _=>?_;simp[g.ip,hst];refine zaj (S:=fun k:Nat=>s2S A U N k) (I:=fun k=>k<=N/\stO (tgT A U) N (usf U) sy (List.range' k (N - k))=r0) (m:=fun k=>N - k) 0 (Weak.to [1,13,14] [((1,0),1)] (by simp[s2S,mkSt,hst])) ⟨yg4 _,hr0⟩ ?_;rintro k ⟨hk,hc⟩ R hn hr hx;have e1:=i64s k;by_cases hlt:k<N
 ·have hrg:List.range' k (N - k)=k::List.range' (k+1) (N - (k+1)):=by rw[show N - k=(N - (k+1))+1 by omega,yix]
  rw[hrg]at hc;simp only[stO]at hc;rw[List.range_eq_range']at hc;simp[g.n1,s2S,mkSt,hlt,hst];refine z5n hA hN hU hlt hsy hsyA (Weak.to [1,6,13,14,20,21] [((1,0),1)] (by simp[s1S,mkSt,hst])) (fun b w h=>?_) (fun h=>?_)
  ·rw[h]at hc;simp only at hc;subst hc;refine hr _ ?_;simp[s1R,mkSt,zwz]
  ·rw[h]at hc;simp only at hc;simp[s1S,mkSt,e1];exact hn (k+1) _ (Weak.to [1,13,14] [((1,0),1)] (by simp[s2S,mkSt])) ⟨by omega,hc⟩ (by omega)
 ·have:k=N:=by omega
  subst this;rw[yil]at hc;simp only[List.range'_zero,stO]at hc;subst hc;simp[g.n1,s2S,mkSt];refine hx _ _ ?_;simp[zwz,ens]
structure Lk (a:GAuto) (n:Nat):Prop where
 n90:n<=90
 n3:3<=n
 sm:a.sm n
 al:a.arcs.length<=19
 vb:a.vb=true
 l0:∀ x∈a.nf.arcs,x.l≠0
 s16:a.st<=16
theorem Lk.ctr{a:GAuto}{n:Nat}(h:Lk a n):CtrOk a.nf a.st.toNat:=by
 have ok:=GAuto.vb_iff.1 h.vb;have k:=zxz ok;have h1:a.nf.st=a.st:=rfl;have e2:(a.st.toNat:Int)=a.st:=by have:=ok.st1;omega
 refine⟨z4j ok,?_,fun x hx=>?_,?_,fun w hw=>(h.sm.fin w hw).mono (by have:=h.n90;omega),k.al,by have:=ok.st2;omega⟩
 ·have:=(zkf ok.ring (l:=a.arcs) fun x hx=>(ok.arcs x hx).2.2.2.2.2.2).1;rw[<- zq6]at this;exact List.Pairwise.imp (fun h=>ydx h) this
 ·have:=k.arcs x hx;rw[e2,<- h1];exact⟨this.2.2.1,this.2.2.2.1⟩
 ·have:=k.fl;rw[h1]at this;omega
theorem Lk.il{a:GAuto}{n:Nat}(h:Lk a n):a.nf.ini.length=a.st.toNat:=by have ok:=GAuto.vb_iff.1 h.vb;have k:=(zxz ok).il;have h1:a.nf.st=a.st:=rfl;rw[h1]at k;omega
theorem Lk.ism{a:GAuto}{n:Nat}(h:Lk a n):∀ w∈a.nf.ini,w.sm 1048576:=fun w hw=>(h.sm.ini w hw).mono (by have:=h.n90;omega)
theorem Lk.fsm{a:GAuto}{n:Nat}(h:Lk a n):∀ w∈a.nf.fin,w.sm 1048576:=fun w hw=>(h.sm.fin w hw).mono (by have:=h.n90;omega)
theorem zye{a:GAuto}{n:Nat}(h:Lk a n):Sp P F.ak [enc a,.bool true] (.pure (.tup [enc (pth a.nf (usV a.nf a.st.toNat)),.int .i64 0])):=by
 have hA:=h.ctr;have hil:a.nf.ini.length=a.st.toNat:=h.il;have hism:∀ w∈a.nf.ini,w.sm 1048576:=h.ism;have hv:=zv4 a n h.n90 h.n3 h.sm h.al;have he:=zo9 (zas a.nf) (by have:=hA.al;show a.nf.arcs.length<=_;omega);have hu:=zpc hA hil hism;have h16:=h.s16;have hN:=hA.N1;have hel:(usV a.nf a.st.toNat).length=a.st.toNat:=zc3 _ _ _ _;have h0:((zas a.nf).a.arcs.any fun x=>decide (x.l=0))=false:=by rw[List.any_eq_false];intro x hx;simpa using h.l0 x hx
 rw[h0]at he;rw[h.vb]at hv;simp only[yf2]at hv;generalize usV a.nf a.st.toNat=U at *
 generalize a.nf=A at *
 refine Sp.vz c.ak fun _=>?_;simp[g.ak];refine zaf hv ?_;simp;refine zaf he ?_;simp;refine⟨h16,fun _=>?_⟩;refine zc8 hu (by simp) ⟨by simp[ens],by omega,by simp[-zat,ens,LIM,hel];omega⟩ _ rfl ?_;simp[hel,pth];rw[<- hel,yfs]
theorem Lk.sy{a:GAuto}{n:Nat}(h:Lk a n):a.sy.toNat<=64/\a.nf.sy=(a.sy.toNat:Nat):=by have ok:=GAuto.vb_iff.1 h.vb;have k:=ok.sy1;have k2:=ok.sy2;have h1:a.nf.sy=a.sy:=rfl;rw[h1];omega
noncomputable def grwA(a:GAuto):Int:=grw (tgT a.nf (usV a.nf a.st.toNat)) a.st.toNat (usf (usV a.nf a.st.toNat)) (nzI a.nf) (nzF a.nf) a.sy.toNat 0 1 2 3
theorem zyv{a:GAuto}{n:Nat}(h:Lk a n):Sp P F.ic [enc a] (.pure (.tup [.int .i64 (grwA a),.int .i64 0])):=by
 have hA:=h.ctr;have hl:=zye h;have h16:a.st.toNat<=16:=by have:=h.s16;omega
 have hel:(usV a.nf a.st.toNat).length=a.st.toNat:=zc3 _ _ _ _;obtain⟨hsy,hsyA⟩:=h.sy;have hp:=z59 hA h.il h.ism hel hsy hsyA;have hlo:=zyd hA hel hsy hsyA;have hst:=z5i hA h16 hel hsy hsyA;have hg:grwA a=grw (tgT a.nf (usV a.nf a.st.toNat)) a.st.toNat (usf (usV a.nf a.st.toNat)) (nzI a.nf) (nzF a.nf) a.sy.toNat 0 1 2 3:=rfl;unfold grw at hg;rw[List.range_eq_range']at hg;generalize tw2 (tgT a.nf (usV a.nf a.st.toNat)) a.st.toNat (fun s=>usf (usV a.nf a.st.toNat) s&&nzI a.nf s) (nzF a.nf) a.sy.toNat=r0 at *
 generalize lpG (tgT a.nf (usV a.nf a.st.toNat)) a.st.toNat (usf (usV a.nf a.st.toNat)) a.sy.toNat (List.range' 0 a.st.toNat)=r1 at *
 generalize stO (tgT a.nf (usV a.nf a.st.toNat)) a.st.toNat (usf (usV a.nf a.st.toNat)) a.sy.toNat (List.range' 0 a.st.toNat)=r2 at *
 generalize pth a.nf (usV a.nf a.st.toNat)=p at *
 generalize grwA a=G at *
 subst hg;refine Sp.vz c.ic fun _=>?_;simp[g.ic];refine zaf hl ?_;simp;refine zaf hp ?_;cases r0 with
 | none=>simp[resS]
 | some w =>
 simp[resS];refine zaf hlo ?_;cases r1 with
 | some w=>simp[resL]
 | none =>
 simp[resL];refine zaf hst ?_;cases r2 with
 | some w=>simp[zwz]
 | none=>simp[zwz]
theorem z15{a:GAuto}{n:Nat}(h:Lk a n):Sp P F.ij [enc a] (.pure (match lpG (tgT a.nf (usV a.nf a.st.toNat)) a.st.toNat (usf (usV a.nf a.st.toNat)) a.sy.toNat (List.range' 0 a.st.toNat)with
  | some (q,w)=>.tup [.int .i64 (q:Nat),.sl (ens w),.bool true,.int .i64 0]
  | none=>.tup [.int .i64 0,.sl [],.bool false,.int .i64 0])):=by
 have hA:=h.ctr;have hl:=zye h;have hel:(usV a.nf a.st.toNat).length=a.st.toNat:=zc3 _ _ _ _;obtain⟨hsy,hsyA⟩:=h.sy;have hlo:=zyd hA hel hsy hsyA;generalize lpG (tgT a.nf (usV a.nf a.st.toNat)) a.st.toNat (usf (usV a.nf a.st.toNat)) a.sy.toNat (List.range' 0 a.st.toNat)=r1 at *
 generalize pth a.nf (usV a.nf a.st.toNat)=p at *
 refine Sp.vz c.ij fun _=>?_;simp[g.ij];refine zaf hl ?_;simp;refine zaf hlo ?_;obtain _|⟨q,w⟩:=r1
 ·simp[resL]
 ·simp[resL]
def adN(L:List GArc)(c:Nat)(g:Nat->Nat)(t:Nat):Nat:=g t+c*(L.filter fun x=>decide (tT x=t)).length
theorem z3y(L:List GArc)(c:Nat)(g:Nat->Nat){k:Nat}(h:k<L.length)(t:Nat):adN (L.take (k+1)) c g t=if t=tT L[k]then adN (L.take k) c g t+c else adN (L.take k) c g t:=by
 unfold adN;rw[yfu h,yiq,ygi,ygw,List.filter_nil];by_cases e:t=tT L[k]
 ·subst e;simp[yg5,yhh]
 ·rw[if_neg e,if_neg (by simpa using fun h=>e h.symm)];simp
theorem z4s(L:List GArc)(c:Nat)(g:Nat->Nat)(k t:Nat):adN (L.take k) c g t<=g t+c*L.length:=by unfold adN;refine Nat.add_le_add_left (yh1 _ (yf7 (yh3 _ _) ?_)) _;rw[yh8];omega
def n2S(A:GAuto)(U:List Bool)(W:List Int)(N wi q:Nat)(l:Int)(f:Nat->Nat)(c:Nat)(L:List GArc)(g:Nat->Nat)(k:Nat):St :=
 mkSt [(4,.ptr 4 0 0 0),(6,.ptr 6 0 0 0),(11,.p (.int .i64 l)),(12,.own 81 0 0 N),(14,.ptr 14 0 0 0),(59,.p (.sl (ens W))),(60,.p (.int .i64 W.length)),(61,.p (.int .i64 wi)),(70,.own 80 0 0 N),(71,.p (.int .i64 N)),(72,.p (.int .i64 q)),(81,.p (.sl (ens L))),(82,.p (.int .i64 L.length)),(83,.p (.int .i64 k))]
  [(4,⟨3,[zR3]⟩),(6,⟨9,[.p (enc (pth A U))]⟩),(14,⟨3,[.p (enc (natR c))]⟩),(80,⟨3,avs (rowG N f)⟩),(81,⟨3,avs (rowG N g)⟩)]
theorem znv(N:Nat)(g:Nat->Nat)(p v:Nat):(avs (rowG N g)).set p (.p (enc (natR v)))=avs (rowG N fun t=>if t=p then v else g t):=by
 have hs:∀ (l:List GRat) (i:Nat) (x:GRat),(avs l).set i (.p (enc x))=avs (l.set i x):=fun l i x=>by simp[-zat,avs,ens,yht]
 rw[hs]
 congr 1
 unfold rowG;rw[zmx];apply zdc;intro q _;by_cases h:q=p<;>simp[h]
theorem z6m{A:GAuto}{U:List Bool}{W:List Int}{N wi q:Nat}{l:Int}{f:Nat->Nat}{c:Nat}{L:List GArc}{e0:Nat->Nat}{n:Nat}(hN:N<=64)(hL:∀ x∈L,0<=x.t/\x.t<(N:Int))(hLl:L.length<=2048)(hn:n<=1000)(hb:∀ t,e0 t+c*L.length<=2048^n)(hc:c<=2048^n)
  {Q:Exit->St->Prop} {ks:List Kt} {st:St} (hw:Weak st (n2S A U W N wi q l f c L e0 0)) (hx:zb6 P 119 Q (zaw 7 ks) 7 (n2S A U W N wi q l f c L (adN L c e0) L.length)):vL P 119 Q g.mi ks st:=by
 have hz:adN (L.take 0) c e0=e0:=by funext t;simp[adN]
 refine zaj (S:=fun k:Nat=>n2S A U W N wi q l f c L (adN (L.take k) c e0) k) (I:=fun k=>k<=L.length) (m:=fun k=>L.length - k) 0 (by rw[hz];exact hw) (by omega) ?_;rintro k hk R hn' hr hx';have e1:=i64s k;by_cases hlt:k<L.length
 ·have hs1:adN (L.take (k+1)) c e0=fun t=>if t=tT L[k]then adN (L.take k) c e0 (tT L[k])+c else adN (L.take k) c e0 t:=by
   funext t;rw[z3y L c e0 hlt];split
   ·rename_i h;rw[h]
   ·rfl
  have hend:∀ st',Weak st' (n2S A U W N wi q l f c L (adN (L.take (k+1)) c e0) (k+1))->R .normal st':=fun st' h=>hn' (k+1) st' h (by omega) (by omega);rw[hs1]at hend;have hbk:adN (L.take k) c e0 (tT L[k])<=2048^n:=yf7 (z4s L c e0 k _) (hb _);obtain⟨t0,t1⟩:=hL _ (yfi hlt);have htt:(L[k]).t=(tT L[k]:Int):=by unfold tT;omega
  have htN:tT L[k]<N:=by unfold tT;omega
  generalize tT L[k]=t at *
  generalize adN (L.take k) c e0=G at *
  have hrow:t<(rowG N G).length:=by rw[zbl];exact htN
  have g1:(rowG N G)[t]=natR (G t):=zg0 _ _;simp[g.mi,n2S,mkSt,hlt];refine zad hlt ?_;simp[htt,htN];refine⟨by rw[zbl];omega,zad hrow ?_⟩;rw[g1];refine zaf (zfi (natR (G t)) (natR c) (zjn hbk hn) (zjn hc hn)) ?_;rw[zj0];simp[e1,zbl,htN];refine zad hrow ?_;have hset:=znv N G t (G t+c);rw[zou]at hset;rw[hset];refine hend _ (Weak.to [4,6,11,12,14,59,60,61,70,71,72,81,82,83] [((4,0),4),((6,0),6),((14,0),14),((80,0),80),((81,0),81)] ?_);simp[n2S,mkSt,zR3]
 ·have:k=L.length:=by omega
  subst this;rw[yfs]at *
  simp[g.mi,n2S,mkSt];refine hx' _ _ ?_;simpa[n2S,mkSt]using hx
def rwN(A:GAuto)(l:Int)(f:Nat->Nat):Nat->Nat->Nat
 | 0=>fun _=>0
 | q+1=>adN (stpL (zba A.arcs q) l) (f q) (rwN A l f q)
theorem znr(F:List GArc)(l:Int):(stpL F l).length<=F.length:=yf7 (List.takeWhile_sublist _).length_le (List.dropWhile_sublist _).length_le
theorem zto{A:List GArc}(h:∀ x∈A,0<=x.f)(q:Nat):ltA A (q+1)=ltA A q+(zba A q).length:=by
 unfold ltA zba
 induction A with
 | nil=>rfl
 | cons x A ih =>
  have ih:=ih fun y hy=>h y (ygk _ hy);simp only[ygw];rcases Int.lt_trichotomy x.f (q:Int)with h1|h1|h1
  ·have e1:x.f<((q+1:Nat):Int):=by omega
   have e2:¬ x.f=(q:Int):=by omega
   simp only[decide_eq_true_eq,e1,h1,e2,yf2,yf9,yg2];omega
  ·have e1:x.f<((q+1:Nat):Int):=by omega
   have e2:¬ x.f<(q:Int):=by omega
   simp only[decide_eq_true_eq,e1,e2,h1,yf2,yf9,yg2];split<;>simp_all<;>omega
  ·have e1:¬ x.f<((q+1:Nat):Int):=by omega
   have e2:¬ x.f=(q:Int):=by omega
   have e3:¬ x.f<(q:Int):=by omega
   simp only[decide_eq_true_eq,e1,e2,e3,yf9];exact ih
theorem zww{A:GAuto}(h:∀ x∈A.arcs,0<=x.f){l:Int}{f:Nat->Nat}{B:Nat}(hf:∀ t,f t<=B):∀ q t,rwN A l f q t<=B*ltA A.arcs q
 | 0,t=>yg4 _
 | q+1,t=>by have ih:=zww h hf (l:=l) q t;have h1:=z4s (stpL (zba A.arcs q) l) (f q) (rwN A l f q) (stpL (zba A.arcs q) l).length t;rw[yfs]at h1;have h2:=znr (zba A.arcs q) l;have h3:f q*(stpL (zba A.arcs q) l).length<=B*(zba A.arcs q).length:=yfz (hf q) h2;rw[zto h,yg5];show adN _ _ _ _<=_;omega
def n3S(A:GAuto)(U:List Bool)(W:List Int)(N wi q:Nat)(l:Int)(f g:Nat->Nat):St :=
 mkSt [(4,.ptr 4 0 0 0),(6,.ptr 6 0 0 0),(11,.p (.int .i64 l)),(12,.own 81 0 0 N),(59,.p (.sl (ens W))),(60,.p (.int .i64 W.length)),(61,.p (.int .i64 wi)),(70,.own 80 0 0 N),(71,.p (.int .i64 N)),(72,.p (.int .i64 q))]
  [(4,⟨3,[zR3]⟩),(6,⟨9,[.p (enc (pth A U))]⟩),(80,⟨3,avs (rowG N f)⟩),(81,⟨3,avs (rowG N g)⟩)]
theorem z6l{A:GAuto}{N:Nat}(hA:CtrOk A N){U:List Bool}{W:List Int}{wi:Nat}{l:Int}(hl0 : -1000<=l)(hl1:l<=1000){f:Nat->Nat}{n:Nat}(hn:n<=999)(hf:∀ t,f t<=2048^n)
  {Q:Exit->St->Prop} {ks:List Kt} {st:St} (hw:Weak st (n3S A U W N wi 0 l f fun _=>0)) (hx:zb6 P 119 Q (zaw 5 ks) 5 (n3S A U W N wi N l f (rwN A l f N))):vL P 119 Q g.mj ks st:=by
 have hN:=hA.N1;refine zaj (S:=fun q:Nat=>n3S A U W N wi q l f (rwN A l f q)) (I:=fun q=>q<=N) (m:=fun q=>N - q) 0 hw (yg4 _) ?_;intro q hq R hn' hr hx';have e1:=i64s q;by_cases hlt:q<N
 ·have hend:∀ st',Weak st' (n3S A U W N wi (q+1) l f (rwN A l f (q+1)))->R .normal st':=fun st' h=>hn' (q+1) st' h (by omega) (by omega);have hrw:rwN A l f (q+1)=adN (stpL (zba A.arcs q) l) (f q) (rwN A l f q):=rfl;rw[hrw]at hend;have hst:=zsm A N q l hA.inN hA.fs hlt (by omega) (by have:=hA.al;omega);have hrow:q<(rowG N f).length:=by rw[zbl];exact hlt
  have g1:(rowG N f)[q]=natR (f q):=zg0 _ _;have hf0:∀ x∈A.arcs,0<=x.f:=fun x hx=>(hA.inN.f x hx).1;have hb:∀ t,rwN A l f q t+f q*(stpL (zba A.arcs q) l).length<=2048^(n+1):=by intro t;have h1:=zww hf0 (l:=l) hf q t;have h2:f q*(stpL (zba A.arcs q) l).length<=2048^n*(zba A.arcs q).length:=yfz (hf q) (znr _ _);have h3:2048^n*ltA A.arcs (q+1)<=2048^n*2048:=yh1 _ (yf7 (ztn _ _) hA.al);rw[zto hf0,yg5]at h3;rw[yfn];omega
  have hLm:∀ x∈stpL (zba A.arcs q) l,0<=x.t/\x.t<(N:Int):=fun x hx=>hA.t x (yh0.1 (zjw hx).1).1;have hLl:(stpL (zba A.arcs q) l).length<=2048:=yf7 (znr _ _) (yf7 (yh3 _ _) hA.al);have hc:f q<=2048^(n+1):=yf7 (hf q) (yg6 (by omega) (by omega));generalize stpL (zba A.arcs q) l=L at *
  generalize rwN A l f q=e0 at *
  simp[g.mj,n3S,mkSt,hlt];refine⟨by rw[zbl];omega,zad hrow ?_⟩;rw[g1];simp[pth];refine zaf hst ?_;simp;refine z6m (A:=A) (U:=U) (W:=W) (N:=N) (wi:=wi) (q:=q) (l:=l) (f:=f) (c:=f q) (L:=L) (e0:=e0) (n:=n+1) hN hLm hLl (by omega) hb hc (Weak.to [4,6,11,12,14,59,60,61,70,71,72,81,82,83] [((4,0),4),((6,0),6),((14,0),14),((80,0),80),((81,0),81)] (by simp[n2S,mkSt,zR3,pth])) ?_;simp[n2S,mkSt,e1];exact hend _ (Weak.to [4,6,11,12,59,60,61,70,71,72] [((4,0),4),((6,0),6),((80,0),80),((81,0),81)] (by simp[n3S,mkSt,zR3]))
 ·have:q=N:=by omega
  subst this;simp[g.mj,n3S,mkSt];refine hx' _ _ ?_;simpa[n3S,mkSt]using hx
theorem zkq(N:Nat):avs (rowG N fun _=>0)=List.replicate N (.p (.agg [.bool false,.sl [],.sl []])):=by unfold rowG;rw[zj1,zf0];simp[zk2,ens]
def fwd(A:GAuto)(N:Nat)(f:Nat->Nat):List Int->Nat->Nat
 | []=>f
 | l::w=>fwd A N (rwN A l f N) w
theorem zt5(A:GAuto)(N:Nat):∀ (w:List Int) (f:Nat->Nat) (l:Int),fwd A N f (w++[l])=rwN A l (fwd A N f w) N
 | [],_,_=>rfl
 | _::w,f,l=>zt5 A N w _ l
theorem zyz{A:GAuto}{N:Nat}(hA:CtrOk A N){f:Nat->Nat}(hf:∀ t,f t<=1):∀ (w:List Int) (n:Nat),(∀ t,f t<=2048^n)->∀ t,fwd A N f w t<=2048^(n+w.length):=by
 intro w;clear hf
 induction w generalizing f with
 | nil=>intro n h t;exact h t
 | cons l w ih =>
  intro n h t;have hf0:∀ x∈A.arcs,0<=x.f:=fun x hx=>(hA.inN.f x hx).1;have h2:∀ t,rwN A l f N t<=2048^(n+1):=by intro t;have h1:=zww hf0 (l:=l) h N t;have h3:2048^n*ltA A.arcs N<=2048^n*2048:=yh1 _ (yf7 (ztn _ _) hA.al);rw[yfn];omega
  have:=ih (n+1) h2 t;rw[yg2,show n+(w.length+1)=n+1+w.length by omega];exact this
def n4S(A:GAuto)(U:List Bool)(W:List Int)(N wi:Nat)(f:Nat->Nat):St :=
 mkSt [(4,.ptr 4 0 0 0),(6,.ptr 6 0 0 0),(8,.own 80 0 0 N),(59,.p (.sl (ens W))),(60,.p (.int .i64 W.length)),(61,.p (.int .i64 wi))]
  [(4,⟨3,[zR3]⟩),(6,⟨9,[.p (enc (pth A U))]⟩),(80,⟨3,avs (rowG N f)⟩)]
theorem z6k{A:GAuto}{N:Nat}(hA:CtrOk A N){U:List Bool}{W:List Int}(hW:W.length<=900)(hWl:∀ x∈W,1<=x/\x<=32){f:Nat->Nat}(hf:∀ t,f t<=1)
  {Q:Exit->St->Prop} {ks:List Kt} {st:St} (hw:Weak st (n4S A U W N 0 f)) (hx:zb6 P 119 Q (zaw 3 ks) 3 (n4S A U W N W.length (fwd A N f W))):vL P 119 Q g.ml ks st:=by
 have hN:=hA.N1;have hst:A.st=(N:Int):=hA.inN.st;refine zaj (S:=fun k:Nat=>n4S A U W N k (fwd A N f (W.take k))) (I:=fun k=>k<=W.length) (m:=fun k=>W.length - k) 0 hw (yg4 _) ?_;intro k hk R hn' hr hx';have e1:=i64s k;by_cases hlt:k<W.length
 ·have hend:∀ st',Weak st' (n4S A U W N (k+1) (fwd A N f (W.take (k+1))))->R .normal st':=fun st' h=>hn' (k+1) st' h (by omega) (by omega);rw[List.take_succ_eq_append_getElem hlt,zt5]at hend;have hb:∀ t,fwd A N f (W.take k) t<=2048^k:=by intro t;have:=zyz hA hf (W.take k) 0 (by simpa using hf) t;rw[List.length_take,Nat.min_eq_left hk,Nat.zero_add]at this;exact this
  obtain⟨l0,l1⟩:=hWl _ (yfi hlt);generalize fwd A N f (W.take k)=f1 at *
  simp[g.ml,n4S,mkSt,hlt];refine zad hlt ?_;generalize W[k]'hlt=l at *
  have ev:(zas A).a=A:=rfl;simp[pth,ev,hst,LIM];refine⟨by omega,?_⟩;refine z6l (A:=A) (U:=U) (W:=W) (N:=N) (wi:=k) (l:=l) (f:=f1) (n:=k) hA (by omega) (by omega) (by omega) hb (Weak.to [4,6,11,12,59,60,61,70,71,72] [((4,0),4),((6,0),6),((80,0),80),((69,0),81)] ?_) ?_
  ·simp only[n3S,zkq];simp[mkSt,zR3,pth,ev,hst]
  simp[n3S,mkSt,e1];exact hend _ (Weak.to [4,6,8,59,60,61] [((4,0),4),((6,0),6),((81,0),80)] (by simp[n4S,mkSt,zR3]))
 ·have:k=W.length:=by omega
  subst this;rw[yfs]at *
  simp[g.ml,n4S,mkSt];refine hx' _ _ ?_;simpa[n4S,mkSt]using hx
noncomputable def bgN(A:GAuto)(k t:Nat):Nat:=if t<k/\nzI A t=true then 1 else 0
def n1S(A:GAuto)(U:List Bool)(W:List Int)(N k:Nat)(f:Nat->Nat):St :=
 mkSt [(1,.p (.sl (ens W))),(4,.ptr 4 0 0 0),(6,.ptr 6 0 0 0),(8,.own 80 0 0 N),(43,.p (.int .i64 N)),(44,.p (.int .i64 k))]
  [(4,⟨3,[zR3]⟩),(6,⟨9,[.p (enc (pth A U))]⟩),(80,⟨3,avs (rowG N f)⟩)]
theorem z6n{A:GAuto}{N:Nat}(hN:N<=64)(hil:A.ini.length=N)(hism:∀ w∈A.ini,w.sm 1048576){U:List Bool}{W:List Int}
  {Q:Exit->St->Prop} {ks:List Kt} {st:St} (hw:Weak st (n1S A U W N 0 fun _=>0)) (hx:zb6 P 119 Q (zaw 1 ks) 1 (n1S A U W N N (bgN A N))):vL P 119 Q g.mh ks st:=by
 have hz:(fun _=>0)=bgN A 0:=by funext t;simp[bgN]
 rw[hz]at hw;refine zaj (S:=fun k:Nat=>n1S A U W N k (bgN A k)) (I:=fun k=>k<=N) (m:=fun k=>N - k) 0 hw (yg4 _) ?_;intro k hk R hn' hr hx';have e1:=i64s k;by_cases hlt:k<N
 ·have hend:∀ st',Weak st' (n1S A U W N (k+1) (bgN A (k+1)))->R .normal st':=fun st' h=>hn' (k+1) st' h (by omega) (by omega);have hb:Sp P F.a8 [enc (zas A),.int .i64 (k:Nat)] (.pure (.bool (nzI A k))):=begF hil hism k hlt;have hs:bgN A (k+1)=fun t=>if t=k then(if nzI A k=true then 1 else 0)else bgN A k t:=by
   funext t;unfold bgN;by_cases e:t=k
   ·subst e;simp
   ·have:t<k+1 ↔ t<k:=by omega
    simp[e,this]
  have h0:bgN A k k=0:=by simp[bgN]
  have hrow:k<(rowG N (bgN A k)).length:=by rw[zbl];exact hlt
  simp[g.mh,n1S,mkSt,hlt,pth];refine zaf hb ?_;cases hc:nzI A k with
  | false =>
   rw[hc]at hs;have hs2:bgN A (k+1)=bgN A k:=by
    rw[hs];funext t;by_cases e:t=k
    ·subst e;simp[h0]
    ·simp[e]
   rw[hs2]at hend;simp[e1];exact hend _ (Weak.to [1,4,6,8,43,44] [((4,0),4),((6,0),6),((80,0),80)] (by simp[n1S,mkSt,zR3,pth]))
  | true =>
   rw[hc]at hs;simp only[yf2]at hs;rw[hs]at hend;simp;refine zaf z4f ?_;simp[hlt,zbl,e1];refine zad hrow ?_;have hset:=znv N (bgN A k) k 1;rw[zou]at hset;rw[hset];exact hend _ (Weak.to [1,4,6,8,43,44] [((4,0),4),((6,0),6),((80,0),80)] (by simp[n1S,mkSt,zR3,pth]))
 ·have:k=N:=by omega
  subst this;simp[g.mh,n1S,mkSt];refine hx' _ _ ?_;simpa[n1S,mkSt]using hx
noncomputable def smE(A:GAuto)(f:Nat->Nat):Nat->Nat
 | 0=>0
 | k+1=>if nzF A k=true then smE A f k+f k else smE A f k
theorem zwr{A:GAuto}{f:Nat->Nat}{B:Nat}(hf:∀ t,f t<=B):∀ k,smE A f k<=k*B
 | 0=>yg4 _
 | k+1=>by have ih:=zwr (A:=A) hf k;have:=hf k;rw[ygt,smE];split<;>omega
def n5S(A:GAuto)(U:List Bool)(N k:Nat)(f:Nat->Nat)(s:Nat):St :=
 mkSt [(4,.ptr 4 0 0 0),(6,.ptr 6 0 0 0),(17,.ptr 17 0 0 0),(103,.own 80 0 0 N),(104,.p (.int .i64 N)),(105,.p (.int .i64 k))]
  [(4,⟨3,[zR3]⟩),(6,⟨9,[.p (enc (pth A U))]⟩),(17,⟨3,[.p (enc (natR s))]⟩),(80,⟨3,avs (rowG N f)⟩)]
theorem z6j{A:GAuto}{N:Nat}(hN:N<=64)(hfl:A.fin.length=N)(hfsm:∀ w∈A.fin,w.sm 1048576){U:List Bool}{f:Nat->Nat}{n:Nat}(hn:n<=998)(hf:∀ t,f t<=2048^n)
  {Q:Exit->St->Prop} {ks:List Kt} {st:St} (hw:Weak st (n5S A U N 0 f 0)) (hx:zb6 P 119 Q (zaw 9 ks) 9 (n5S A U N N f (smE A f N))):vL P 119 Q g.mm ks st:=by
 refine zaj (S:=fun k:Nat=>n5S A U N k f (smE A f k)) (I:=fun k=>k<=N) (m:=fun k=>N - k) 0 hw (yg4 _) ?_;intro k hk R hn' hr hx';have e1:=i64s k;by_cases hlt:k<N
 ·have hend:∀ st',Weak st' (n5S A U N (k+1) f (smE A f (k+1)))->R .normal st':=fun st' h=>hn' (k+1) st' h (by omega) (by omega);have hb:Sp P F.bb [enc (zas A),.int .i64 (k:Nat)] (.pure (.bool (nzF A k))):=endF hfl hfsm k hlt;have b1:smE A f k<=2048^(n+1):=by have h1:=zwr (A:=A) hf k;have h2:k*2048^n<=2048*2048^n:=yg7 _ (by omega);rw[yfn,yfy];omega
  have b2:f k<=2048^(n+1):=yf7 (hf k) (yg6 (by omega) (by omega));have hs:smE A f (k+1)=if nzF A k=true then smE A f k+f k else smE A f k:=rfl
  rw[hs]at hend;have hrow:k<(rowG N f).length:=by rw[zbl];exact hlt
  have g1:(rowG N f)[k]=natR (f k):=zg0 _ _;generalize smE A f k=s0 at *
  simp[g.mm,n5S,mkSt,hlt];refine⟨by rw[zbl];omega,zad hrow ?_⟩;rw[g1];simp[pth];refine zaf hb ?_;cases hc:nzF A k with
  | false =>
   rw[hc]at hend;simp[e1];exact hend _ (Weak.to [4,6,17,103,104,105] [((4,0),4),((6,0),6),((17,0),17),((80,0),80)] (by simp[n5S,mkSt,zR3,pth]))
  | true =>
   rw[hc]at hend;simp only[yf2]at hend;simp;refine zaf (zfi (natR s0) (natR (f k)) (zjn b1 (by omega)) (zjn b2 (by omega))) ?_;rw[zj0];simp[e1];exact hend _ (Weak.to [4,6,17,103,104,105] [((4,0),4),((6,0),6),((17,0),17),((80,0),80)] (by simp[n5S,mkSt,zR3,pth]))
 ·have:k=N:=by omega
  subst this;simp[g.mm,n5S,mkSt];refine hx' _ _ ?_;simpa[n5S,mkSt]using hx
theorem z16{a:GAuto}{n:Nat}(h:Lk a n):Sp P F.ak [enc a,.bool false] (.pure (.tup [enc (pth a.nf (usV a.nf a.st.toNat)),.int .i64 0])):=by
 have hA:=h.ctr;have hv:=zv4 a n h.n90 h.n3 h.sm h.al;have he:=zo9 (zas a.nf) (by have:=hA.al;show a.nf.arcs.length<=_;omega);have hu:=zpc hA h.il h.ism;have hN:=hA.N1;have hel:(usV a.nf a.st.toNat).length=a.st.toNat:=zc3 _ _ _ _;have h0:((zas a.nf).a.arcs.any fun x=>decide (x.l=0))=false:=by rw[List.any_eq_false];intro x hx;simpa using h.l0 x hx
 rw[h0]at he;rw[h.vb]at hv;simp only[yf2]at hv;generalize usV a.nf a.st.toNat=U at *
 generalize a.nf=A at *
 refine Sp.vz c.ak fun _=>?_;simp[g.ak];refine zaf hv ?_;simp;refine zaf he ?_;simp;refine zc8 hu (by simp) ⟨by simp[ens],by omega,by simp[-zat,ens,LIM,hel];omega⟩ _ rfl ?_;simp[hel,pth];rw[<- hel,yfs]
noncomputable def cntA(A:GAuto)(N:Nat)(w:List Int):Nat:=smE A (fwd A N (bgN A N) w) N
theorem z28{a:GAuto}{n:Nat}(h:Lk a n){w:List Int}(hw:w.length<=256)(hl:∀ x∈w,1<=x/\x<=a.sy):Sp P F.ik [enc a,.sl (ens w)] (.pure (.tup [enc (natR (cntA a.nf a.st.toNat w)),.int .i64 0])):=by
 have hA:=h.ctr;have ok:=GAuto.vb_iff.1 h.vb;have s1:=ok.sy1;have s2:=ok.sy2;have hlo:=z16 h;have hwv:=zo7 w a.sy (by omega);rw[decide_eq_true (show(1<=a.sy/\a.sy<=32)/\w.length<=256/\∀ x∈w,1<=x/\x<=a.sy from ⟨⟨s1,s2⟩,hw,hl⟩)]at hwv;have hwl:∀ x∈w,1<=x/\x<=32:=fun x hx=>⟨(hl x hx).1,by have:=(hl x hx).2;omega⟩;have il:=h.il;have ism:=h.ism;have fl:=hA.fl;have fsm:=h.fsm;have hN:=hA.N1;have hst:a.nf.st=(a.st.toNat:Int):=hA.inN.st;have hf1:∀ t,bgN a.nf a.st.toNat t<=1:=fun t=>by unfold bgN;split<;>omega
 have hb:∀ t,fwd a.nf a.st.toNat (bgN a.nf a.st.toNat) w t<=2048^w.length:=by intro t;have:=zyz hA hf1 w 0 (by simpa using hf1) t;rw[Nat.zero_add]at this;exact this
 have hN0:a.nf.st.toNat=a.st.toNat:=rfl;unfold cntA;generalize usV a.nf a.st.toNat=U at *
 generalize a.nf=A at *
 generalize a.st.toNat=N at *
 have ev:(zas A).a=A:=rfl;refine Sp.vz c.ik fun _=>?_;generalize hR:retP [(4,some 3),(5,none)] (.pure (.tup [enc (natR (smE A (fwd A N (bgN A N) w) N)),.int .i64 0]))=R;simp[g.ik];refine zaf hlo ?_;simp;refine zaf hwv ?_;simp[pth,ev,hst,LIM];refine⟨by omega,?_⟩;refine z6n (A:=A) (N:=N) (U:=U) (W:=w) hN il ism (Weak.to [1,4,6,8,43,44] [((4,0),4),((6,0),6),((41,0),80)] ?_) ?_
 ·simp only[n1S,zkq];simp[mkSt,zR3,pth,ev,hst]
 simp[n1S,mkSt];refine z6k (A:=A) (N:=N) (U:=U) (W:=w) hA (by omega) hwl hf1 (Weak.to [4,6,8,59,60,61] [((4,0),4),((6,0),6),((80,0),80)] (by simp[n4S,mkSt,zR3])) ?_;simp[n4S,mkSt];refine z6j (A:=A) (N:=N) (U:=U) hN fl fsm (n:=w.length) (by omega) hb ((Weak.freezeTo (s:=17) (g:=0) (n:=3) [enc (natR 0)] [] rfl (by simp[zk2,ens]) (by simp) (by simp)).trans (Weak.to [4,6,17,103,104,105] [((4,0),4),((6,0),6),((17,0),17),((80,0),80)] (by simp[n5S,mkSt,zR3,killAll,St.setObj]))) ?_;simp[n5S,mkSt];subst hR;simp
def cnt(m:List Bool)(k:Nat):Nat:=(m.take k).count true
def toF(m:List Bool):List Int:=(List.range m.length).map fun j=>if m.getD j false=true then((cnt m j:Nat):Int)else 0
end Go.Ab
namespace Go.Ab
def tgc(A:GAuto)(l:Int)(q t:Nat):Nat:=((stpL (zba A.arcs q) l).filter fun x=>decide (tT x=t)).length
theorem z1b(A:GAuto)(l:Int)(f:Nat->Nat)(q t:Nat):rwN A l f (q+1) t=rwN A l f q t+f q*tgc A l q t:=rfl
end Go.Ab
namespace Go.Ab
open Enc (enc)
attribute [local simp] zai Opd.slots
end Go.Ab
namespace Go.Ab
open Enc (enc)
theorem zyr{N:Nat}{sy:Int}{p:GPlan}{arcs:List GArc}{x:GArc}(hx:arcOk N sy x)(h:∀ y∈arcs,arcOk N sy y):∀ y∈zp5 p arcs x,arcOk N sy y:=by
 unfold zp5;split
 ·exact h
 ·split
  ·exact h
  ·intro y hy;rcases yfk.1 hy with hy|hy
   ·exact h y hy
   ·rw[ygj]at hy;subst hy;exact z9b _ hx
theorem z4t{p:GPlan}{N:Nat}{sy:Int}(hs:1<=sy)(at0:Nat):∀ i,∀ y∈(a3 wkT p sy N at0 i).2,arcOk N sy y
 | 0=>fun y hy=>(by cases hy)
 | i+1=>by
  have ih:=z4t (p:=p) (N:=N) hs at0 i;simp only[a3,zpk];split
  ·rename_i h;exact zyr (z7x h.2 hs) ih
  ·exact ih
structure Md (a:GAuto):Prop where
 lk:Lk a 3
 ring:a.ring=⟨2,[]⟩
 st:a.st<=5
 arcs:∀ x∈a.arcs,1<=x.l/\tw x.w 5
theorem z13{p:GPlan}{most:Int}(h0:0<=most)(h5:most<=5):Md (zvy wkT p most):=by
 have hsr:=zff p.sy (show(1:Int)<=3 by omega);have hnr:=zff p.st (show(1:Int)<=most+1 by omega);have hN:autN p most<=5:=by unfold autN;omega
 have hS:1<=autS p/\autS p<=3:=by unfold autS;omega
 have hP:zvy wkT p most=⟨⟨2,[]⟩,autS p,autN p most,mp (autN p most) (iE wkT p),mp (autN p most) (fE wkT p (autN p most)),(a3 wkT p (autS p) (autN p most) (pA wkT p.L (autN p most)) 14).2⟩:=rfl;have A1:=z4t (p:=p) (N:=autN p most) hS.1 (pA wkT p.L (autN p most)) 14;have hal:=zuq wkT p (autS p) (autN p most) (pA wkT p.L (autN p most)) 14;generalize (a3 wkT p (autS p) (autN p most) (pA wkT p.L (autN p most)) 14).2=arcs at *
 generalize autN p most=N at *
 generalize autS p=sy at *
 rw[hP];have ok:GAuto.ok ⟨⟨2,[]⟩,sy,N,mp N (iE wkT p),mp N (fE wkT p N),arcs⟩:=by
  refine⟨zrg,hS.1,by show sy<=32;omega,by show(0:Int)<=N;omega,by show(N:Int)<=64;omega,by simp[zbf],by simp[zbf],by show arcs.length<=2048;omega,fun x hx=>?_,fun w hw=>?_,fun w hw=>?_⟩
  ·have h:=A1 x hx;exact⟨h.f.1,h.f.2,h.t.1,h.t.2,by have:=h.l.1;omega,h.l.2,zhd h.w (by omega)⟩
  ·obtain⟨i,_,rfl⟩:=ztk hw;exact zhd (yac p i) (by omega)
  ·obtain⟨i,_,rfl⟩:=ztk hw;exact zhd (yag p N i) (by omega)
 refine⟨⟨by omega,by omega,⟨fun w hw=>?_,fun w hw=>?_,fun x hx=>zpd (A1 x hx).w⟩,by show arcs.length<=19;omega,GAuto.vb_iff.2 ok,fun x hx=>?_,by show(N:Int)<=16;omega⟩,rfl,by show(N:Int)<=5;omega,fun x hx=>⟨(A1 x hx).l.1,(A1 x hx).w⟩⟩
 ·obtain⟨i,_,rfl⟩:=ztk hw;exact zpd (yac p i)
 ·obtain⟨i,_,rfl⟩:=ztk hw;exact zpd (yag p N i)
 ·obtain⟨y,hy,ey⟩:=zwh (key:=GArc.key) (wt:=GArc.w) (up:=upA ⟨2,[]⟩) zrg (fun _ _=>rfl) (fun _ _=>rfl) (fun x hx=>(ok.arcs x hx).2.2.2.2.2.2) hx;have h:=(A1 y hy).l;simp only[GArc.key,List.cons.injEq,and_true]at ey;omega
theorem zpj{l:Int}:∀ {F:List GArc},F.Pairwise (fun x y=>x.l<=y.l)->(∀ x∈F,l<=x.l)->(F.takeWhile fun x=>decide (x.l=l))=F.filter fun x=>decide (x.l=l)
 | [],_,_=>rfl
 | x::F,hp,hl=>by
  obtain⟨h1,h2⟩:=ygg.1 hp;have ih:=zpj h2 fun y hy=>hl y (ygk _ hy);rw[List.takeWhile_cons,ygw];by_cases e:x.l=l
  ·simp[e,ih]
  ·have hx:=hl x yip;have:F.filter (fun x=>decide (x.l=l))=[]:=by rw[yjn];intro y hy;have:=h1 y hy;simp;omega
   simp[e,this]
theorem zkh{l:Int}:∀ {F:List GArc},F.Pairwise (fun x y=>x.l<=y.l)->stpL F l=F.filter fun x=>decide (x.l=l)
 | [],_=>rfl
 | x::F,hp=>by
  obtain⟨h1,h2⟩:=ygg.1 hp;have ih:=zkh (l:=l) h2;unfold stpL at ih ⊢;rw[List.dropWhile_cons];by_cases h:x.l<l
  ·rw[if_pos (by simpa using h),ih,List.filter_cons,if_neg (by simp;omega)]
  ·rw[if_neg (by simpa using h)];exact zpj hp fun y hy=>by
    rcases yf4.1 hy with rfl|hy
    ·omega
    ·have:=h1 y hy;omega
theorem Lk.srt{a:GAuto}{n:Nat}(h:Lk a n):SSrt GArc.key a.nf.arcs:=by have ok:=GAuto.vb_iff.1 h.vb;have h1:=(zkf ok.ring (l:=a.arcs) fun x hx=>(ok.arcs x hx).2.2.2.2.2.2).1;rw[<- zq6]at h1;exact h1
end Go.Ab
namespace Go.Ab
open Enc (enc)
attribute [local simp] zai Opd.slots
def kc(f t:Int):GArc:=⟨f,1,t,gw0⟩
def ginf:GW:=.mk gr0 0 true 0 [] []
theorem z4m:ginf=GRing.zero ⟨2,[]⟩:=by simp[GRing.zero,zrg,ginf]
theorem zon:tw ginf 5:=⟨0,true,rfl,by omega,by omega,fun _=>rfl⟩
def kM:GAuto:=⟨⟨2,[]⟩,1,2,[gw0,ginf],[gw0,ginf],[kc 0 1,kc 0 0,kc 1 0]⟩
def kN:List GArc:=[kc 0 0,kc 0 1,kc 1 0]
theorem z98:mrg GArc.key (upA ⟨2,[]⟩) id (srt GArc.key [kc 0 1,kc 0 0,kc 1 0])=kN:=by
 have h1:srt GArc.key [kc 0 1,kc 0 0,kc 1 0]=kN:=by simp[srt,insR,kN,kc,GArc.key,ykc]
 rw[h1];simp[mrg,mst,kN,kc,GArc.key]
theorem z19:kM.nf.arcs=kN:=by
 show tidA ⟨2,[]⟩ [kc 0 1,kc 0 0,kc 1 0]=kN;unfold tidA;rw[z98];have:∀ x∈kN,(!decide (x.w=GRing.zero ⟨2,[]⟩))=true:=by
  intro x hx;have hw:x.w=gw0:=by simp only[kN,yf4,ygd,or_false]at hx;rcases hx with rfl|rfl|rfl<;>rfl
  rw[hw];simpa using zp9
 exact yjo.2 this
theorem ydy:kM.ok:=by
 refine⟨zrg,by decide,by decide,by decide,by decide,rfl,rfl,by decide,fun x hx=>?_,fun w hw=>?_,fun w hw=>?_⟩
 ·have:x=kc 0 1\/x=kc 0 0\/x=kc 1 0:=by simpa[kM]using hx
  rcases this with rfl|rfl|rfl
  ·exact⟨by decide,by decide,by decide,by decide,by decide,by decide,zhd zjd (by omega)⟩
  ·exact⟨by decide,by decide,by decide,by decide,by decide,by decide,zhd zjd (by omega)⟩
  ·exact⟨by decide,by decide,by decide,by decide,by decide,by decide,zhd zjd (by omega)⟩
 ·have:w=gw0\/w=ginf:=by simpa[kM]using hw
  rcases this with rfl|rfl
  ·exact zhd zjd (by omega)
  ·exact zhd zon (by omega)
 ·have:w=gw0\/w=ginf:=by simpa[kM]using hw
  rcases this with rfl|rfl
  ·exact zhd zjd (by omega)
  ·exact zhd zon (by omega)
theorem yaa:Lk kM 3:=by
 refine⟨by omega,by omega,⟨fun w hw=>?_,fun w hw=>?_,fun x hx=>?_⟩,by decide,GAuto.vb_iff.2 ydy,fun x hx=>?_,by decide⟩
 ·have:w=gw0\/w=ginf:=by simpa[kM]using hw
  rcases this with rfl|rfl
  ·exact zpd zjd
  ·exact zpd zon
 ·have:w=gw0\/w=ginf:=by simpa[kM]using hw
  rcases this with rfl|rfl
  ·exact zpd zjd
  ·exact zpd zon
 ·have:x=kc 0 1\/x=kc 0 0\/x=kc 1 0:=by simpa[kM]using hx
  rcases this with rfl|rfl|rfl<;>exact zpd zjd
 ·rw[z19]at hx;simp only[kN,yf4,ygd,or_false]at hx;rcases hx with rfl|rfl|rfl<;>decide
theorem z4i:begP kM.nf 2 0:=⟨by omega,zp9⟩
theorem z4h:endP kM.nf 2 0:=⟨by omega,zp9⟩
theorem z96(q:Nat):usB kM.nf 2 q=decide (q<2):=by
 have m1:kc 0 1∈kM.nf.arcs:=by rw[z19];simp[kN]
 have m2:kc 1 0∈kM.nf.arcs:=by rw[z19];simp[kN]
 rw[yj6,decide_eq_true_eq,z49];refine⟨fun h=>h.1,fun h=>⟨h,?_⟩⟩;obtain rfl|rfl:q=0\/q=1:=by omega
 ·exact⟨.base z4h,.base z4i⟩
 ·exact⟨.step (x:=kc 1 0) m2 (.base z4h),.step (x:=kc 0 1) m1 (.base z4i)⟩
theorem z4g:usV kM.nf 2=[true,true]:=by
 have hl:(usV kM.nf 2).length=2:=zc3 _ _ _ _;have h0:=z96 0;have h1:=z96 1;unfold usB at h0 h1;generalize usV kM.nf 2=l at *
 match l,hl with
 | [x,y],_=>simp at h0 h1;rw[h0,h1]
theorem ydz:nzI kM.nf=fun q=>decide (q=0):=by
 funext q;unfold nzI;have z:(kM.nf.ini.getD 0 kM.nf.ring.zero≠kM.nf.ring.zero):=zp9
 match q with
 | 0=>simpa using z
 | 1 =>
  have:kM.nf.ini.getD 1 kM.nf.ring.zero=kM.nf.ring.zero:=z4m;rw[this];simp
 | q+2 =>
  have:kM.nf.ini.getD (q+2) kM.nf.ring.zero=kM.nf.ring.zero:=rfl;rw[this];simp
theorem z99:nzF kM.nf=fun q=>decide (q=0):=by
 funext q;unfold nzF;have z:(kM.nf.fin.getD 0 kM.nf.ring.zero≠kM.nf.ring.zero):=zp9
 match q with
 | 0=>simpa using z
 | 1 =>
  have:kM.nf.fin.getD 1 kM.nf.ring.zero=kM.nf.ring.zero:=z4m;rw[this];simp
 | q+2 =>
  have:kM.nf.fin.getD (q+2) kM.nf.ring.zero=kM.nf.ring.zero:=rfl;rw[this];simp
def kT(q l:Nat):List Nat:=if l=1 then(if q=0 then[0,1]else if q=1 then[0]else[])else[]
theorem z97:tgT kM.nf [true,true]=kT:=by
 funext q l;unfold tgT tgS kT;rw[z19];by_cases hl:l=1
 ·subst hl
  match q with
  | 0=>rfl
  | 1=>rfl
  | q+2 =>
   have:zba kN (q+2)=[]:=by unfold zba kN kc;simp;omega
   rw[this];rfl
 ·rw[yf0 hl];have:stpL (zba kN q) l=[]:=by
   rw[<- List.length_eq_zero_iff];rcases yka (stpL (zba kN q) l)with h|⟨a,b,h⟩
   ·rw[h];rfl
   ·exfalso;have hb:b∈stpL (zba kN q) (l:Int):=by rw[h];simp
    obtain⟨h1,h2⟩:=zjw hb;have h3:=(yh0.1 h1).1;simp only[kN,yf4,ygd,or_false]at h3;have:b.l=1:=by rcases h3 with rfl|rfl|rfl<;>rfl
    omega
  rw[this];rfl
theorem z62:lpG (tgT kM.nf (usV kM.nf kM.st.toNat)) kM.st.toNat (usf (usV kM.nf kM.st.toNat)) kM.sy.toNat (List.range' 0 kM.st.toNat)=some (0,[1,1]):=by show lpG (tgT kM.nf (usV kM.nf 2)) 2 (usf (usV kM.nf 2)) 1 (List.range' 0 2)=some (0,[1,1]);rw[z4g,z97];rfl
theorem yab:grwA kM=3:=by unfold grwA;show grw (tgT kM.nf (usV kM.nf 2)) 2 (usf (usV kM.nf 2)) (nzI kM.nf) (nzF kM.nf) 1 0 1 2 3=3;rw[z4g,z97,ydz,z99];rfl
theorem zva:Sp P F.ii [] (.pure (.bool true)):=by
 have hg:=zyv yaa;have hl:=z15 yaa;rw[yab]at hg;rw[z62]at hl;refine Sp.of_mr c.ii (by simp) ?_;unfold g.ii;generalize hR:(fun(ex:Exit) (st:St) (_:Option FA)=>retP [(0,none)] (RV.pure (.bool true)) ex st)=R;refine MR.gseq ?_;simp;refine MR.gseq ?_;simp;refine MR.gseq ?_;simp;refine MR.weak (st1:=mkSt [(2,.ptr 2 0 0 0)] [(2,⟨7,[.p (enc kM)]⟩)]) ((Weak.freezeTo (s:=2) (g:=0) (n:=3) [enc kM] [(13,0),(16,0),(20,0)] rfl (by simp[kM,kc,gw0,ginf,gr0,ens]) (by simp) (by simp)).trans (Weak.to [2] [((2,0),2)] (by simp[mkSt,killAll,St.setObj]))) ?_;generalize kM=A at *
 refine MR.of_vm ?_;simp[mkSt];refine zaf hg ?_;simp;refine zaf hl ?_;simp[ens];subst hR;simp
end Go.Ab
namespace Go.Ab
section
variable {goal:Nat->Bool} {nxt:Nat->Nat->List Nat}
end
section
variable {goal:Nat->Bool} {nxt:Nat->Nat->List Nat}
structure LI (goal:Nat->Bool) (nxt:Nat->Nat->List Nat) (sy size:Nat) (beg:List Nat) (w:List Int) (G:List Nat) (l:Nat) (q:List Grp) (s:List Bool):Prop where
 a1:∀ v m,Ld nxt sy beg v m->slt v (w++[(l:Int)])->mkd s m
 a2:∀ m,m<size->mkd s m->goal m=false/\((∀ k,1<=k->k<=sy->∀ x∈nxt m k,mkd s x)\/(∃ g∈q,m∈g.2)\/(m∈G/\∀ k,1<=k->k<l->∀ x∈nxt m k,mkd s x))
 a3:∀ g∈(w,G)::q,∀ m∈g.2,∀ v,Ld nxt sy beg v m->¬ slt v g.1
 a4:((w,G)::q).Pairwise fun g h=>slt g.1 h.1
 a5:∀ g∈q,∃ (u:List Int) (a:Nat),g.1=u++[(a:Int)]/\a<=sy/\(slt u w\/(u=w/\a<l))
end
section
variable {A:GAuto} {N:Nat} (hs:SSrt GArc.key A.arcs) (hok:StOk A N) (ht:∀ x∈A.arcs,0<=x.t)
include hs hok ht
end
end Go.Ab
