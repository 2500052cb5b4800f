/- Lemmas for the law AmbiguityCounts, part 33. No conditions. -/
import Derived.Test.YtcemegnnejaahaaGreatDoorDP32
set_option maxRecDepth 100000
set_option maxHeartbeats 4000000
set_option linter.all false
namespace Go.Ab
def dt(f g:Nat->Nat):Nat->Nat
 | 0=>0
 | k+1=>dt f g k+f k*g k
theorem zr7(f g h:Nat->Nat):∀ N,dt f (fun t=>g t+h t) N=dt f g N+dt f h N
 | 0=>rfl
 | k+1=>by simp only[dt];rw[zr7 f g h k,yg5];omega
theorem zzp(f g h:Nat->Nat):∀ N,dt (fun t=>f t+g t) h N=dt f h N+dt g h N
 | 0=>rfl
 | k+1=>by simp only[dt];rw[zzp f g h k,ygf];omega
theorem zuf{f g f' g':Nat->Nat}:∀ {N},(∀ t,t<N->f t=f' t)->(∀ t,t<N->g t=g' t)->dt f g N=dt f' g' N
 | 0,_,_=>rfl
 | k+1,h1,h2=>by simp only[dt];rw[zuf (fun t h=>h1 t (by omega)) (fun t h=>h2 t (by omega)),h1 k (by omega),h2 k (by omega)]
theorem z7n(f:Nat->Nat):∀ N,dt f (fun _=>0) N=0
 | 0=>rfl
 | k+1=>by simp only[dt];rw[z7n f k];rfl
theorem yas(f:Nat->Nat):∀ N,dt (fun _=>0) f N=0
 | 0=>rfl
 | k+1=>by simp only[dt];rw[yas f k,yir]
theorem zr6(f:Nat->Nat)(k c:Nat):∀ N,dt f (fun t=>if t=k then c else 0) N=if k<N then f k*c else 0
 | 0=>by simp[dt]
 | n+1=>by
  simp only[dt];rw[zr6 f k c n];by_cases h:n=k
  ·subst h;simp
  ·have:k<n+1 ↔ k<n:=by omega
   simp[h,this]
theorem zzn(g:Nat->Nat)(k c:Nat):∀ N,dt (fun t=>if t=k then c else 0) g N=if k<N then c*g k else 0
 | 0=>by simp[dt]
 | n+1=>by
  simp only[dt];rw[zzn g k c n];by_cases h:n=k
  ·subst h;simp
  ·have:k<n+1 ↔ k<n:=by omega
   simp[h,this]
def bwA(l:Int)(g f:Nat->Nat)(x:GArc):Nat->Nat:=if x.l=l then fun t=>if t=fT x then f t+g (tT x)else f t else f
noncomputable def bw(A:GAuto)(N:Nat):List Int->Nat->Nat
 | []=>fun q=>if q<N/\nzF A q=true then 1 else 0
 | l::w=>A.arcs.foldl (bwA l (bw A N w)) fun _=>0
def cnL(L:List GArc)(l:Int)(q t:Nat):Nat:=(L.filter fun x=>decide (x.f=(q:Int)/\x.l=l/\tT x=t)).length
theorem z3g(x:GArc)(L:List GArc)(l:Int)(q t:Nat):cnL (x::L) l q t=cnL L l q t+if x.f=(q:Int)/\x.l=l/\tT x=t then 1 else 0:=by
 unfold cnL;rw[ygw];by_cases h:x.f=(q:Int)/\x.l=l/\tT x=t
 ·simp[h]
 ·simp only[h,decide_false,yfl,yf9];rfl
theorem z5b{A:GAuto}(hs:SSrt GArc.key A.arcs)(l:Int)(q t:Nat):tgc A l q t=cnL A.arcs l q t:=by
 unfold tgc cnL zba;have hp:(A.arcs.filter fun x=>decide (x.f=(q:Int))).Pairwise fun x y=>x.l<=y.l:=by have h0:A.arcs.Pairwise fun a b=>a.key<b.key:=hs;refine(yjv List.filter_sublist h0).imp_of_mem ?_;intro a b ha hb hab;have h1:=of_decide_eq_true (yh0.1 ha).2;have h2:=of_decide_eq_true (yh0.1 hb).2;simp only[GArc.key,z61]at hab;omega
 rw[zkh hp,List.filter_filter,List.filter_filter]
 congr 1
 apply List.filter_congr;intro x _;rw[yj6];simp only[yfr,decide_eq_true_eq];exact⟨fun h=>⟨h.2,h.1.2,h.1.1⟩,fun h=>⟨⟨h.2.2,h.2.1⟩,h.1⟩⟩
theorem z37{A:GAuto}(hs:SSrt GArc.key A.arcs)(l:Int)(f:Nat->Nat)(t:Nat):∀ N,rwN A l f N t=dt f (fun q=>cnL A.arcs l q t) N
 | 0=>rfl
 | N+1=>by rw[z1b,z37 hs l f t N,z5b hs];rfl
theorem yat{N:Nat}(f g h:Nat->Nat)(l:Int){x:GArc}(hx:fT x<N):dt f (bwA l g h x) N=dt f h N+if x.l=l then f (fT x)*g (tT x)else 0:=by
 unfold bwA;by_cases e:x.l=l
 ·rw[yf1 e,yf1 e];have:(fun t=>if t=fT x then h t+g (tT x)else h t)=fun t=>h t+(if t=fT x then g (tT x)else 0):=by funext t;split<;>rfl
  rw[this,zr7,zr6,yf1 hx]
 ·rw[yf0 e,yf0 e];rfl
theorem zzo{N:Nat}(f g:Nat->Nat)(l:Int):∀ (L:List GArc) (h:Nat->Nat),(∀ x∈L,0<=x.f/\fT x<N/\tT x<N)->dt f (L.foldl (bwA l g) h) N=dt f h N+dt (fun t=>dt f (fun q=>cnL L l q t) N) g N
 | [],h,_=>by
  have:(fun t=>dt f (fun q=>cnL [] l q t) N)=fun _=>0:=by funext t;exact z7n f N
  rw[this,yas];rfl
 | x::L,h,hL=>by
  obtain⟨h0,h1,h2⟩:=hL x yip;rw[yi7,zzo f g l L _ fun y hy=>hL y (ygk _ hy),yat f g h l h1];have e:(fun t=>dt f (fun q=>cnL (x::L) l q t) N)=fun t=>dt f (fun q=>cnL L l q t) N+(if t=tT x then(if x.l=l then f (fT x)else 0)else 0):=by
   funext t;have e1:(fun q=>cnL (x::L) l q t)=fun q=>cnL L l q t+(if q=fT x then(if x.l=l/\tT x=t then 1 else 0)else 0):=by
    funext q;rw[z3g]
    congr 1
    have:x.f=(q:Int) ↔ q=fT x:=by unfold fT;omega
    by_cases hq:q=fT x
    ·have hx:x.f=(q:Int):=this.2 hq;rw[yf1 hq];simp only[hx,true_and]
    ·have hx:¬ x.f=(q:Int):=fun h=>hq (this.1 h);rw[yf0 hq,yf0 fun h=>hx h.1]
   rw[e1,zr7,zr6,yf1 h1]
   congr 1
   by_cases ht:t=tT x
   ·subst ht;by_cases hl:x.l=l<;>simp[hl]
   ·have:¬ tT x=t:=fun e=>ht e.symm;simp[ht,this]
  rw[e,zzp,zzn,yf1 h2];split<;>omega
theorem z9e(A:GAuto)(f:Nat->Nat)(N:Nat):smE A f N=dt f (bw A N []) N:=by
 have key:∀ k,k<=N->smE A f k=dt f (bw A N []) k:=by
  intro k
  induction k with
  | zero=>intro _;rfl
  | succ k ih =>
   intro hk;have e:bw A N [] k=if nzF A k=true then 1 else 0:=by
    show(if k<N/\nzF A k=true then 1 else 0)=_;have:k<N:=by omega
    simp[this]
   rw[smE,dt,ih (by omega),e];split<;>simp
 exact key N (yf8 _)
theorem z4o{A:GAuto}(hs:SSrt GArc.key A.arcs){N:Nat}(hA:∀ x∈A.arcs,0<=x.f/\fT x<N/\tT x<N):∀ (w:List Int) (f:Nat->Nat),smE A (fwd A N f w) N=dt f (bw A N w) N
 | [],f=>z9e A f N
 | l::w,f=>by show smE A (fwd A N (rwN A l f N) w) N=dt f (A.arcs.foldl (bwA l (bw A N w)) fun _=>0) N;rw[z4o hs hA w,zzo f _ l A.arcs _ hA,z7n,ygm];refine zuf (fun t _=>z37 hs l f t N) fun _ _=>rfl
noncomputable def smI(A:GAuto)(g:Nat->Nat):Nat->Nat
 | 0=>0
 | k+1=>if nzI A k=true then smI A g k+g k else smI A g k
theorem z9d(A:GAuto)(g:Nat->Nat)(N:Nat):smI A g N=dt (bgN A N) g N:=by
 have key:∀ k,k<=N->smI A g k=dt (bgN A N) g k:=by
  intro k
  induction k with
  | zero=>intro _;rfl
  | succ k ih =>
   intro hk;have e:bgN A N k=if nzI A k=true then 1 else 0:=by
    unfold bgN;have:k<N:=by omega
    simp[this]
   rw[smI,dt,ih (by omega),e];split<;>simp
 exact key N (yf8 _)
theorem ybc{A:GAuto}(hs:SSrt GArc.key A.arcs){N:Nat}(hA:∀ x∈A.arcs,0<=x.f/\fT x<N/\tT x<N)(w:List Int):cntA A N w=smI A (bw A N w) N:=by unfold cntA;rw[z4o hs hA,z9d]
theorem ybh{l:Int}{g f:Nat->Nat}{x:GArc}{B k:Nat}(hg:∀ t,g t<=B)(hf:∀ t,f t<=k*B):∀ t,bwA l g f x t<=(k+1)*B:=by
 intro t;have h1:=hf t;have h2:=hg (tT x);unfold bwA;rw[ygt];split
 ·show(if t=fT x then f t+g (tT x)else f t)<=_;split<;>omega
 ·omega
theorem zz2{l:Int}{g:Nat->Nat}{B:Nat}(hg:∀ t,g t<=B):∀ (L:List GArc) (f:Nat->Nat) (k:Nat),(∀ t,f t<=k*B)->∀ t,L.foldl (bwA l g) f t<=(k+L.length)*B
 | [],f,k,hf,t=>hf t
 | x::L,f,k,hf,t=>by have:=zz2 (l:=l) hg L (bwA l g f x) (k+1) (ybh hg hf) t;rw[yi7,yg2,show k+(L.length+1)=k+1+L.length by omega];exact this
theorem z7t{A:GAuto}(h:A.arcs.length<=2048)(N:Nat):∀ (w:List Int) (t:Nat),bw A N w t<=2048^w.length
 | [],t=>by show(if t<N/\nzF A t=true then 1 else 0)<=1;split<;>omega
 | l::w,t=>by have h1:=zz2 (l:=l) (z7t h N w) A.arcs (fun _=>0) 0 (fun _=>yg4 _) t;refine yf7 h1 ?_;rw[ygm,yg2,yfn,yfy];exact yh1 _ h
end Go.Ab
namespace Go.Ab
open Enc (enc)
attribute [local simp] zai Opd.slots
def lstV(A:GAuto)(W:List Int)(ways:AV):AV:=.agg [.p (.int .i64 A.ring.kind),.p (.sl (ens A.ring.parts)),.p (.int .i64 A.sy),.p (.int .i64 A.st),.p (.sl (ens A.ini)),.p (.sl (ens A.fin)),.p (.sl (ens A.arcs)),.p (.sl (ens W)),ways,.p (.int .i64 0),.nil]
def zgc(N m:Nat)(F:Nat->Nat->Nat):List (List GRat):=mp m fun i=>rowG N (F i)
def hpK(A:GAuto)(W:List Int)(N M m:Nat)(F:Nat->Nat->Nat):List Site:=[(900000,[some ⟨11,[lstV A W (.own 900001 0 0 M)]⟩]),(900001,[some ⟨1,mp m (rowC N)++List.replicate (M - m) .nil⟩]),(900002,famQ (zgc N m F))]
theorem zwy(N m:Nat)(F:Nat->Nat->Nat):(zgc N m F).length=m:=zbf _ _
theorem zj6(N:Nat){m i:Nat}(F:Nat->Nat->Nat)(h:i<m):(famQ (zgc N m F))[i]?.getD none=some ⟨3,avs (rowG N (F i))⟩:=by simp[famQ,zgc,mp,h]
theorem zud(N:Nat){m i:Nat}(F:Nat->Nat->Nat)(t v:Nat)(F':Nat->Nat->Nat)(h:∀ j,j≠i->F' j=F j)(hi:F' i=fun s=>if s=t then v else F i s) :
  (famQ (zgc N m F)).set i (some ⟨3,(avs (rowG N (F i))).set t (.p (enc (natR v)))⟩)=famQ (zgc N m F'):=by
 rw[znv,<- hi];unfold famQ zgc;have e:∀ l:List GRat,some (⟨3,avs l⟩:AObj)=(fun l:List GRat=>some (⟨3,avs l⟩:AObj)) l:=fun _=>rfl;rw[e (rowG N (F' i)),<- List.map_set]
 congr 1
 unfold mp;apply yhq
 ·simp
 ·intro j h1 h2;rw[List.getElem_set];by_cases hj:i=j
  ·subst hj;simp
  ·rw[yf0 hj];simp only[List.getElem_map,List.getElem_range];rw[h j fun e=>hj e.symm]
theorem zy6(N m:Nat)(F:Nat->Nat->Nat):famQ (zgc N (m+1) F)=famQ (zgc N m F)++[some ⟨3,avs (rowG N (F m))⟩]:=by simp[famQ,zgc,mp,yjq]
theorem zxw(ks:List Nat):∀ n,zam ks (List.replicate n .nil)=true
 | 0=>rfl
 | n+1=>by rw[yh9];simp only[zam,zce,yhp];exact zxw ks n
theorem zkg(σ : Sg):∀ n,subL σ (List.replicate n .nil)=List.replicate n .nil
 | 0=>rfl
 | n+1=>by rw[yh9];simp only[subL,sub,zkg σ n]
theorem zmm(ks:List Nat):∀ l r:List AV,zam ks (l++r)=(zam ks l&&zam ks r)
 | [],_=>by simp[zam]
 | x::l,r=>by rw[yi2,zam,zam,zmm ks l r,Bool.and_assoc]
theorem yad(A:GAuto)(W:List Int)(N M m:Nat)(F:Nat->Nat->Nat):hpOk [900000,900001,900002] (hpK A W N M m F)=true:=by
 have h1:zam [900000,900001,900002] (mp m (rowC N)++List.replicate (M - m) .nil)=true:=by rw[zmm,zxw,yjr];exact zrd N _
 have h2:(famQ (zgc N m F)).all (ze5 [900000,900001,900002])=true:=yfp.2 (zy5 _);simp only[hpOk,hpK,yi1,List.all_nil,h2,yjr,yhp,ze5,h1];simp[lstV,zam,zce]
def wq1S(A:GAuto)(W:List Int)(N m:Nat):St :=
 ⟨[(0,.ptr 900000 0 0 0),(2,.ptr 2 0 0 0),(4,.p (.int .i64 W.length)),(30,.p (.int .i64 (W.length+1:Nat))),(31,.p (.int .i64 m))],hpK A W N (W.length+1) m (fun _ _=>0)++[(2,[some ⟨3,[.p (enc (natR 1))]⟩]),(DEAD,[none])]⟩
theorem z0k{A:GAuto}{W:List Int}{N:Nat}(hN:N<=64)(hst:A.st=(N:Int))(hW:W.length<=900)
  {Q:Exit->St->Prop} {ks:List Kt} {st:St} (hw:Weak st (wq1S A W N 0)) (hx:zb6 P 138 Q (zaw 0 ks) 0 (wq1S A W N (W.length+1))):vL P 138 Q g.mq ks st:=by
 refine zaj (S:=fun m:Nat=>wq1S A W N m) (I:=fun m=>m<=W.length+1) (m:=fun m=>W.length+1 - m) 0 hw (yg4 _) ?_;intro m hm R hn' hr hx';have e1:=i64s m;by_cases hlt:m<W.length+1
 ·have hend:∀ st',Weak st' (wq1S A W N (m+1))->R .normal st':=fun st' h=>hn' (m+1) st' h (by omega) (by omega);obtain⟨d,hd⟩:∃ d,W.length+1 - m=d+1:=⟨W.length - m,by omega⟩;have hd2:W.length+1 - (m+1)=d:=by omega
  have hlt2:(m:Int)<(W.length:Int)+1:=by omega
  have hml:(mp m (rowC N)).length=m:=zbf _ _;have hget:(mp m (rowC N)++List.replicate (d+1) AV.nil)[m]?=some .nil:=by rw[yhg (by omega),hml,yil];rfl
  have hz:avs (rowG N fun _=>0)=List.replicate N (.p (.agg [.bool false,.sl [],.sl []])):=zkq N;simp[g.mq,wq1S,hpK,lstV,hlt,hlt2,hst,LIM,e1,hd,zbf];refine⟨by omega,by omega,?_⟩;rw[zeb];refine⟨_,hget,?_⟩;simp[killAll,St.kill];rw[e1];refine hend _ (zfj [0,2,4,30,31] [(900000,[(900000,0)]),(900001,[(900001,0)]),(900002,[(900002,0),(44,0)]),(2,[(2,0)])] ?_ (fun σ => σ 900000 0=(900000,0) /\ σ 900001 0=(900001,0)/\(∀ g,σ 900002 g=(900002,g)) /\ σ 44 0=(900002,m) /\ σ 2 0=(2,0)) ?_ ?_)
  ·simp[ze4,zl6,zdy,PINB,DEAD,zct]
  ·simp[sgP,zfr,zdm,St.site,look,z2q,zwy]
  ·rintro σ ⟨s1,s2,s3,s4,s5⟩;simp[hpP,catS,sub,subO,subL,St.get,look,St.site,wq1S,hpK,hst,s1,s2,s3,s4,s5,lstV,z2p,zet,zy6,hd2,zwo,z1d s3,zrs,rowC,yh9,zkg];rw[<- hz,zet]
 ·have:m=W.length+1:=by omega
  subst this;have hx2:=hx;simp[wq1S,hpK,lstV]at hx2;simp[g.mq,wq1S,hpK,lstV];exact hx' _ _ hx2
def hpR(A:GAuto)(W:List Int)(N:Nat)(F:Nat->Nat->Nat):List Site:=[(900000,[some ⟨11,[lstV A W (.own 900001 0 0 (W.length+1))]⟩]),(900001,[some ⟨1,mp (W.length+1) (rowC N)⟩]),(900002,famQ (zgc N (W.length+1) F))]
theorem ztz(A:GAuto)(W:List Int)(N:Nat)(F:Nat->Nat->Nat):hpK A W N (W.length+1) (W.length+1) F=hpR A W N F:=by unfold hpK hpR;rw[yil,List.replicate_zero,yia]
theorem zty(A:GAuto)(W:List Int)(N:Nat)(F:Nat->Nat->Nat):hpOk [900000,900001,900002] (hpR A W N F)=true:=by rw[<- ztz];exact yad A W N _ _ F
theorem zcx(N m:Nat)(F:Nat->Nat->Nat):zam [900000,900001,900002] (mp m (rowC N))=true/\∀ x:Option AObj,x∈famQ (zgc N m F)->ze5 [900000,900001,900002] x=true:=⟨zrd N _,zy5 _⟩
theorem zjy(N:Nat){m i:Nat}(h:i<m):(mp m (rowC N))[i]?=some (rowC N i):=by simp[mp,h]
noncomputable def f2(A:GAuto)(n q:Nat):Nat->Nat->Nat:=fun i t=>if i=n/\t<q/\nzF A t=true then 1 else 0
noncomputable def wq2S(A:GAuto)(W:List Int)(N q:Nat):St :=
 ⟨[(0,.ptr 900000 0 0 0),(2,.ptr 2 0 0 0),(4,.p (.int .i64 W.length)),(51,.p (.sl (ens A.fin))),(52,.p (.int .i64 N)),(53,.p (.int .i64 q))],hpR A W N (f2 A W.length q)++[(2,[some ⟨3,[.p (enc (natR 1))]⟩]),(DEAD,[none])]⟩
theorem z0j{A:GAuto}{W:List Int}{N:Nat}(hN:N<=64)(hfl:A.fin.length=N)(hfsm:∀ w∈A.fin,w.sm 1048576)(hW:W.length<=900)
  {Q:Exit->St->Prop} {ks:List Kt} {st:St} (hw:Weak st (wq2S A W N 0)) (hx:zb6 P 138 Q (zaw 2 ks) 2 (wq2S A W N N)):vL P 138 Q g.mu ks st:=by
 refine zaj (S:=fun q:Nat=>wq2S A W N q) (I:=fun q=>q<=N) (m:=fun q=>N - q) 0 hw (yg4 _) ?_;intro q hq R hn' hr hx';have e1:=i64s q;by_cases hlt:q<N
 ·have hend:∀ st',Weak st' (wq2S A W N (q+1))->R .normal st':=fun st' h=>hn' (q+1) st' h (by omega) (by omega);have hqf:q<A.fin.length:=by omega
  have hg:A.fin.getD q A.ring.zero=A.fin[q]:=by rw[yfj,yfm hqf];rfl
  have hz:=ziu A.ring A.fin[q] (hfsm _ (yfi hqf));have enz:nzF A q = !decide (A.fin[q]=A.ring.zero):=by unfold nzF;rw[hg];simp
  have o1:=zj6 N (m:=W.length+1) (f2 A W.length q) (show W.length<W.length+1 by omega);have r1:=zjy N (m:=W.length+1) (show W.length<W.length+1 by omega);have hrow:q<(rowG N (f2 A W.length q W.length)).length:=by rw[zbl];exact hlt
  simp[g.mu,wq2S,hpR,lstV,hlt,hfl];refine zad hqf ?_;refine zaf hz ?_;by_cases hb:A.fin[q]=A.ring.zero
  ·have hs:f2 A W.length (q+1)=f2 A W.length q:=by
    funext i t;unfold f2;by_cases ht:t=q
    ·subst ht;simp[enz,hb]
    ·have:t<q+1 ↔ t<q:=by omega
     simp only[this]
   rw[wq2S,hs]at hend;simp[hb,e1];refine hend _ (Weak.toF [0,2,4,51,52,53] [900000,900001,900002] [((2,0),2)] ?_);simp[hpR,lstV];exact zcx N _ _
  ·have hset:=zud N (m:=W.length+1) (i:=W.length) (f2 A W.length q) q 1 (f2 A W.length (q+1)) (fun j hj=>by funext t;unfold f2;rw[yf0 fun h=>hj h.1,yf0 fun h=>hj h.1]) (by
    funext t;unfold f2;by_cases ht:t=q
    ·subst ht;simp[enz,hb]
    ·have:t<q+1 ↔ t<q:=by omega
     simp only[this,ht,yf9])
   rw[zou]at hset;simp[hb,e1,zbf];rw[zeb];refine⟨_,r1,?_⟩;simp[rowC,o1,zbl,hlt];refine zad hrow ?_;rw[e1,hset];refine hend _ (Weak.toF [0,2,4,51,52,53] [900000,900001,900002] [((2,0),2)] ?_);simp[wq2S,hpR,lstV];exact zcx N _ _
 ·have:q=N:=by omega
  subst this;simp[g.mu,wq2S,hpR,lstV];refine hx' _ _ ?_;simpa[wq2S,hpR,lstV]using hx
noncomputable def f3(A:GAuto)(N:Nat)(W:List Int)(i:Nat)(g:Nat->Nat):Nat->Nat->Nat:=fun j=>if j=i then g else if i<j then bw A N (W.drop j)else fun _=>0
noncomputable def wq3S(A:GAuto)(W:List Int)(N i k:Nat)(g:Nat->Nat):St :=
 ⟨[(0,.ptr 900000 0 0 0),(8,.p (.int .i64 i)),(87,.p (.sl (ens A.arcs))),(88,.p (.int .i64 A.arcs.length)),(89,.p (.int .i64 k))],hpR A W N (f3 A N W i g)++[(DEAD,[none])]⟩
theorem z0i{A:GAuto}{W:List Int}{N i:Nat}(hN:N<=64)(hA:∀ x∈A.arcs,0<=x.f/\fT x<N/\0<=x.t/\tT x<N)(hal:A.arcs.length<=2048)(hW:W.length<=900)(hi:i<W.length)
  {Q:Exit->St->Prop} {ks:List Kt} {st:St} (hw:Weak st (wq3S A W N i 0 fun _=>0)) (hx:zb6 P 138 Q (zaw 6 ks) 6 (wq3S A W N i A.arcs.length (A.arcs.foldl (bwA W[i] (bw A N (W.drop (i+1)))) fun _=>0))):vL P 138 Q g.mw ks st:=by
 refine zaj (S:=fun k:Nat=>wq3S A W N i k ((A.arcs.take k).foldl (bwA W[i] (bw A N (W.drop (i+1)))) fun _=>0)) (I:=fun k=>k<=A.arcs.length) (m:=fun k=>A.arcs.length - k) 0 hw (yg4 _) ?_;intro k hk R hn' hr hx';have e1:=i64s k;have e2:=i64s i;by_cases hlt:k<A.arcs.length
 ·have hend:∀ st',Weak st' (wq3S A W N i (k+1) ((A.arcs.take (k+1)).foldl (bwA W[i] (bw A N (W.drop (i+1)))) fun _=>0))->R .normal st':=fun st' h=>hn' (k+1) st' h (by omega) (by omega);rw[yfu hlt,yh5]at hend;simp only[yi7,List.foldl_nil]at hend;have hb1:∀ t,bw A N (W.drop (i+1)) t<=2048^W.length:=fun t=>by refine yf7 (z7t hal N _ t) (yg6 (by omega) ?_);rw[yhk];omega
  have hb2:∀ t,(A.arcs.take k).foldl (bwA W[i] (bw A N (W.drop (i+1)))) (fun _=>0) t<=2048^(W.length+1):=fun t=>by have:=zz2 (l:=W[i]) hb1 (A.arcs.take k) (fun _=>0) 0 (fun _=>yg4 _) t;refine yf7 this ?_;rw[ygm,yh8,yfn,yfy];exact yh1 _ (by omega)
  obtain⟨a1,a2,a3,a4⟩:=hA _ (yfi hlt);have o1:=fun G=>zj6 N (m:=W.length+1) (f3 A N W i G) (show i<W.length+1 by omega);have o2:=fun G=>zj6 N (m:=W.length+1) (f3 A N W i G) (show i+1<W.length+1 by omega);have r1:=zjy N (m:=W.length+1) (show i<W.length+1 by omega);have r2:=zjy N (m:=W.length+1) (show i+1<W.length+1 by omega);generalize (A.arcs.take k).foldl (bwA W[i] (bw A N (W.drop (i+1)))) (fun _=>0)=G at *
  simp[g.mw,wq3S,hpR,lstV,hlt];refine zad hlt ?_;refine zad hi ⟨fun e=>?_,fun e=>?_⟩
  ·have hs:bwA W[i] (bw A N (W.drop (i+1))) G A.arcs[k]=fun s=>if s=fT A.arcs[k]then G (fT A.arcs[k])+bw A N (W.drop (i+1)) (tT A.arcs[k])else G s:=by
    unfold bwA;rw[yf1 e];funext s;by_cases h:s=fT A.arcs[k]
    ·rw[yf1 h,yf1 h,h]
    ·rw[yf0 h,yf0 h]
   rw[hs]at hend;have xf:A.arcs[k].f=((fT A.arcs[k]:Nat):Int):=by unfold fT;omega
   have xt:A.arcs[k].t=((tT A.arcs[k]:Nat):Int):=by unfold tT;omega
   generalize A.arcs[k]=x at *
   generalize fT x=p at *
   generalize tT x=r at *
   have o1:=o1 G;have o2:=o2 G;have g1:f3 A N W i G i=G:=by unfold f3;rw[yf1 rfl]
   have g2:f3 A N W i G (i+1)=bw A N (W.drop (i+1)):=by unfold f3;rw[yf0 (by omega),yf1 (by omega)]
   have hset:=zud N (m:=W.length+1) (i:=i) (f3 A N W i G) p (G p+bw A N (W.drop (i+1)) r) (f3 A N W i fun s=>if s=p then G p+bw A N (W.drop (i+1)) r else G s) (fun j hj=>by unfold f3;rw[yf0 hj,yf0 hj]) (by
    funext t;rw[g1];unfold f3;rw[yf1 rfl])
   rw[g1]at o1 hset;rw[g2]at o2;have hb1:=hb1 r;have hb2:=hb2 p;generalize bw A N (W.drop (i+1))=H at *
   have w1:p<(rowG N G).length:=by rw[zbl];exact a2
   have w2:r<(rowG N H).length:=by rw[zbl];exact a4
   have hadd:=zfi (natR (G p)) (natR (H r)) (zjn hb2 (by omega)) (zjn hb1 (by omega));rw[zj0]at hadd;rw[zou]at hset;refine⟨⟨by omega,by rw[zbf];exact yf8 _⟩,?_⟩;rw[zeb];refine⟨_,r1,?_⟩;simp;refine⟨⟨by omega,by rw[zbf];exact yf8 _⟩,?_⟩;rw[zeb];refine⟨_,r1,?_⟩;simp[rowC,o1,zbl,xf,a2];refine zad w1 ?_;rw[e2,yh4,zg0];refine⟨⟨by omega,by omega,by rw[zbf];exact yf8 _⟩,?_⟩;rw[zeb];refine⟨_,r2,?_⟩;simp[rowC,o2,zbl,xt,a4];refine zad w2 ?_;rw[zg0];refine zaf hadd ?_;simp[rowC,o1,zbl,a2];refine zad w1 ?_;rw[e1,hset];refine hend _ (Weak.toF [0,8,87,88,89] [900000,900001,900002] [] ?_);simp[wq3S,hpR,lstV];exact zcx N _ _
  ·have hs:bwA W[i] (bw A N (W.drop (i+1))) G A.arcs[k]=G:=by unfold bwA;rw[yf0 e]
   rw[hs]at hend;simp[e1];refine hend _ (Weak.toF [0,8,87,88,89] [900000,900001,900002] [] ?_);simp[wq3S,hpR,lstV];exact zcx N _ _
 ·have:k=A.arcs.length:=by omega
  subst this;rw[yfs]at *
  simp[g.mw,wq3S,hpR,lstV];refine hx' _ _ ?_;simpa[wq3S,hpR,lstV]using hx
theorem zll(A:GAuto)(W:List Int)(N:Nat){F F':Nat->Nat->Nat}(h:∀ j,j<W.length+1->∀ t,F j t=F' j t):hpR A W N F=hpR A W N F':=by
 have:zgc N (W.length+1) F=zgc N (W.length+1) F':=by unfold zgc;apply zdc;intro j hj;rw[show F j=F' j from funext (h j hj)]
 unfold hpR;rw[this]
noncomputable def f4(A:GAuto)(N:Nat)(W:List Int)(i:Nat):Nat->Nat->Nat:=fun j=>if i<=j then bw A N (W.drop j)else fun _=>0
noncomputable def wq4S(A:GAuto)(W:List Int)(N i:Nat):St:=⟨[(0,.ptr 900000 0 0 0),(8,.p (.int .i64 ((i:Int) - 1)))],hpR A W N (f4 A N W i)++[(DEAD,[none])]⟩
theorem z0h{A:GAuto}{W:List Int}{N:Nat}(hN:N<=64)(hA:∀ x∈A.arcs,0<=x.f/\fT x<N/\0<=x.t/\tT x<N)(hal:A.arcs.length<=2048)(hW:W.length<=900)
  {Q:Exit->St->Prop} {ks:List Kt} {st:St} (hw:Weak st (wq4S A W N W.length)) (hx:zb6 P 138 Q (zaw 4 ks) 4 (wq4S A W N 0)):vL P 138 Q g.my ks st:=by
 refine zaj (S:=fun i:Nat=>wq4S A W N i) (I:=fun i=>i<=W.length) (m:=fun i=>i) W.length hw (yf8 _) ?_;intro i hi R hn' hr hx';cases i with
 | zero =>
  have hx2:=hx;simp[wq4S,hpR,lstV]at hx2;simp[g.my,wq4S,hpR,lstV];exact hx' _ _ hx2
 | succ i =>
  have hend:∀ st',Weak st' (wq4S A W N i)->R .normal st':=fun st' h=>hn' i st' h (by omega) (by omega);have e0:(((i+1:Nat):Int) - 1)=(i:Int):=by omega
  have e1:IntKind.i64.wrap ((i:Int) - 1)=(i:Int) - 1:=i64w (by omega) (by omega);have c1:hpR A W N (f4 A N W (i+1))=hpR A W N (f3 A N W i fun _=>0):=zll A W N fun j _ t=>by
   unfold f4 f3;by_cases h1:j=i
   ·subst h1;rw[yf0 (by omega),yf1 rfl]
   ·rw[yf0 h1];by_cases h2:i<j
    ·rw[yf1 (by omega),yf1 h2]
    ·rw[yf0 (by omega),yf0 h2]
  have c2:hpR A W N (f3 A N W i (A.arcs.foldl (bwA W[i] (bw A N (W.drop (i+1)))) fun _=>0))=hpR A W N (f4 A N W i):=zll A W N fun j _ t=>by
   unfold f4 f3;by_cases h1:j=i
   ·subst h1;rw[yf1 rfl,yf1 (yf8 _),yho (show j<W.length by omega)];rfl
   ·rw[yf0 h1];by_cases h2:i<j
    ·rw[yf1 h2,yf1 (by omega)]
    ·rw[yf0 h2,yf0 (by omega)]
  rw[wq4S,<- c2]at hend;rw[wq4S,c1,e0];simp[g.my,hpR,lstV];refine z0i (W:=W) (i:=i) hN hA hal hW (by omega) (Weak.toF [0,8,87,88,89] [900000,900001,900002] [] ?_) ?_
  ·simp[wq3S,hpR,lstV];exact zcx N _ _
  simp[wq3S,hpR,lstV,e1];refine hend _ (Weak.toF [0,8] [900000,900001,900002] [] ?_);simp[hpR,lstV];exact zcx N _ _
def hpL0(A:GAuto)(W:List Int):List Site:=[(900000,[some ⟨11,[lstV A W .nil]⟩]),(900001,[]),(900002,[])]
theorem zvo{A:GAuto}{W:List Int}{N:Nat}(hst:A.st=(N:Int))(hN:N<=64)(hfl:A.fin.length=N)(hfsm:∀ w∈A.fin,w.sm 1048576)(hA:∀ x∈A.arcs,0<=x.f/\fT x<N/\0<=x.t/\tT x<N)(hal:A.arcs.length<=2048)(hW:W.length<=900) :
  HSp P F.i7 [.ptr 900000 0 0 0] (hpL0 A W) (.tup []) (hpR A W N (f4 A N W 0)):=by
 refine HSp.of_mr c.i7 (by simp) (by simp[hpL0,PINB]) (by simp[hpL0,hpR]) ?_ fun A0 hA0=>MR.of_vm ?_
 ·show(true&&hpOk [900000,900001,900002] (hpR A W N (f4 A N W 0)))=true;rw[zty];rfl
 have e1:IntKind.i64.wrap ((W.length:Int)+1)=((W.length+1:Nat):Int):=i64w (by omega) (by omega);have e2:IntKind.i64.wrap ((W.length:Int) - 1)=(W.length:Int) - 1:=i64w (by omega) (by omega);have c2:hpR A W N (f2 A W.length N)=hpR A W N (f4 A N W W.length):=zll A W N fun j hj t=>by
  unfold f4 f2;by_cases h1:j=W.length
  ·subst h1;rw[yf1 (yf8 _),List.drop_length];simp only[true_and];rfl
  ·rw[yf0 fun h=>h1 h.1,yf0 (by omega)]
 simp[g.i7,za5,hpL0,lstV];refine zaf z4f ?_;simp[e1,LIM];refine⟨⟨by omega,by omega⟩,?_⟩;refine z0k (W:=W) hN hst hW (zfj [0,2,4,30,31] [(900000,[(900000,0)]),(900001,[(900001,0),(23,0)]),(900002,[(900002,0)]),(2,[(2,0)])] ?_ (fun σ => σ 900000 0=(900000,0) /\ σ 23 0=(900001,0) /\ σ 2 0=(2,0)) ?_ ?_) ?_
 ·simp[ze4,zl6,zdy,PINB,DEAD,zct]
 ·simp[sgP,zfr,zdm,St.site,look]
 ·rintro σ ⟨s1,s2,s3⟩;simp[hpP,catS,sub,subO,subL,St.get,look,St.site,wq1S,hpK,s1,s2,s3,lstV,zkg,famQ,zgc,mp]
 rw[wq1S,ztz];simp[hpR,lstV,hfl];refine z0j (W:=W) hN hfl hfsm hW (Weak.toF [0,2,4,51,52,53] [900000,900001,900002] [((2,0),2)] ?_) ?_
 ·have h0:f2 A W.length 0=fun _ _=>0:=by funext i t;unfold f2;rw[yf0 (by omega)]
  simp[wq2S,hpR,lstV,h0];exact zcx N _ _
 rw[wq2S,c2];simp[hpR,lstV,e2];refine z0h (W:=W) hN hA hal hW (Weak.toF [0,8] [900000,900001,900002] [] ?_) ?_
 ·simp[wq4S,hpR,lstV];exact zcx N _ _
 simp[wq4S,hpR,lstV];refine⟨.inr rfl,_,Weak.refl _,[],rfl,rfl,?_⟩;simp[zbb,St.site,look]
end Go.Ab
namespace Go.Ab
open Go.Proofs
def g.nj:GC:=.seq (.reg [⟨some 3,.box 7 (.t 0),none⟩,⟨some 6,.mv (.c .nil),none⟩,⟨some 7,.alloc 3 (.agg [.p (.bool false),.nil,.nil]),none⟩,⟨some 8,.mv (.c (.p (.int .i64 0))),none⟩] [[0],[6],[],[8]]) (.seq (.reg [⟨some 13,.load 7 true (.t 3),none⟩,⟨some 14,.mv (.t 1),none⟩,⟨some 15,.call F.i6 [.t 13,.t 14],none⟩,⟨some 12,.mv (.t 15),none⟩,⟨some 16,.extract (.t 12) 0,none⟩,⟨some 17,.extract (.t 12) 1,none⟩,⟨none,.store 7 (.t 3) (.t 16),none⟩,⟨some 8,.mv (.t 17),none⟩] [[],[],[13,14],[15],[],[12],[16],[17]]) (.seq (.blk 0 (.seq (.reg [⟨some 19,.mv (.t 8),none⟩,⟨some 20,.ibin .neq (.t 19) (.c (.p (.int .i64 0))),none⟩,⟨some 18,.mv (.t 20),none⟩] [[],[19],[20]]) (.cond (.t 18) [18] (.seq (.reg [⟨some 21,.build [.p (.bool false),.nil,.nil] [],none⟩,⟨some 22,.mv (.t 8),none⟩,⟨some 6,.mv (.c .nil),none⟩,⟨none,.store 3 (.t 7) (.t 21),none⟩,⟨some 8,.mv (.t 22),none⟩] [[1,2,3],[8],[],[21],[22]]) (.ret)) (.seq (.reg [⟨some 24,.mv (.t 2),none⟩,⟨some 25,.ibin .lss (.t 24) (.c (.p (.int .i64 0))),none⟩,⟨some 26,.mv (.t 25),none⟩,⟨some 27,.mv (.t 2),some (26,false)⟩,⟨some 28,.ibin .gtr (.t 27) (.c (.p (.int .i64 64))),some (26,false)⟩,⟨some 29,.pick (.t 26) (.c (.p (.bool true))) (.t 28),none⟩,⟨some 23,.mv (.t 29),none⟩] [[8],[24],[25],[],[27],[26,28],[29]]) (.cond (.t 23) [23] (.seq (.reg [⟨some 30,.build [.p (.bool false),.nil,.nil] [],none⟩,⟨some 6,.mv (.c .nil),none⟩,⟨none,.store 3 (.t 7) (.t 30),none⟩,⟨some 8,.mv (.c (.p (.int .i64 1))),none⟩] [[1,2,3],[],[30]]) (.ret)) (.nop)))))) (.seq (.reg [⟨some 31,.load 7 true (.t 3),none⟩,⟨some 32,.mv (.t 1),none⟩,⟨some 33,.mv (.t 2),none⟩,⟨some 34,.build [.p (.int .i64 0),.nil,.p (.int .i64 0),.p (.int .i64 0),.nil,.nil,.nil,.nil,.nil,.p (.int .i64 0),.nil] [(0,7,.t 31),(7,1,.t 32),(9,1,.t 33)],none⟩,⟨some 35,.box 11 (.t 34),none⟩,⟨some 9,.mv (.t 35),none⟩] [[],[1],[2],[31,32,33],[34],[35]]) (.seq (.reg [⟨some 36,.mv (.t 9),none⟩,⟨some 37,.call F.i7 [.t 36],none⟩] [[],[36,37]]) (.seq (.seq (.reg [⟨some 38,.faddr 4 (.t 3),none⟩,⟨some 39,.load 1 false (.t 38),none⟩,⟨some 40,.len (.t 39),none⟩,⟨some 41,.mv (.c (.p (.int .i64 0))),none⟩] [[],[38]]) (.blk 1 (.loop g.mn))) (.seq (.regD [⟨some 68,.mv (.t 9),none⟩,⟨some 69,.nilck (.t 68),none⟩,⟨some 70,.faddr 10 (.t 69),none⟩,⟨some 71,.load 1 false (.t 70),none⟩,⟨some 72,.load 3 true (.t 7),none⟩,⟨some 6,.mv (.t 71),none⟩,⟨none,.store 3 (.t 7) (.t 72),none⟩,⟨some 8,.mv (.c (.p (.int .i64 0))),none⟩] [[],[0],[1,0],[2,1,0],[],[3,2,1,0],[4,5,3,2,1,0],[6,4,5,3,2,1,0]] [[3,9,39,40,41],[68],[69],[70],[],[71],[72]]) (.ret)))))))
theorem c.nj:zac P F.nk=some ⟨73,3,g.nj.er,[(6,none),(7,some 3),(8,none)]⟩:=by kernel_rfl
end Go.Ab
namespace Go.Ab
open Enc (enc)
attribute [local simp] zai Opd.slots
theorem zw4(x:GArc):Sp P F.fg [enc x] (.pure (.bool (decide (x.l=0)))):=by refine Sp.vz c.fg fun _=>?_;simp[g.fg]
theorem z1i{a:GAuto}{n:Nat}(h:Lk a n){w:List Int}(hw:w.length<=256)(hl:∀ x∈w,1<=x/\x<=a.sy):Sp P F.i6 [enc a,.sl (ens w)] (.pure (.tup [enc a.nf,.int .i64 0])):=by
 have ok:=GAuto.vb_iff.1 h.vb;have s1:=ok.sy1;have s2:=ok.sy2;have hn:=zmu a n h.n90 h.n3 h.sm h.al;rw[h.vb]at hn;simp only[if_true]at hn;have hal:=h.ctr.al;have hc:=zlm a.nf.arcs F.fg [] (fun x=>decide (x.l=0)) (by omega) fun x _=>zw4 x;have h0:(a.nf.arcs.any fun x=>decide (x.l=0))=false:=by rw[List.any_eq_false];intro x hx;simpa using h.l0 x hx
 rw[h0]at hc;have hwv:=zo7 w a.sy (by omega);rw[decide_eq_true (show(1<=a.sy/\a.sy<=32)/\w.length<=256/\∀ x∈w,1<=x/\x<=a.sy from ⟨⟨s1,s2⟩,hw,hl⟩)]at hwv;generalize a.nf=A at *
 refine Sp.vz c.i6 fun _=>?_;simp[g.i6];refine zaf hn ?_;simp;refine zaf hc ?_;simp;refine zaf hwv ?_;simp
theorem zyf(A:GAuto)(W:List Int)(N:Nat)(G:Nat->Nat->Nat)(q:Int)(w:GW) :
  HSp P F.ee [.ptr 900000 0 0 0,.p (.int .i64 q),.p (.int .i64 q),.nil,.p (enc w)] (hpR A W N G) (.tup []) (hpR A W N G):=by
 refine HSp.of_mr c.ee (by simp) (by simp[hpR,PINB]) rfl ?_ fun A0 hA0=>MR.of_vm ?_
 ·show(true&&hpOk [900000,900001,900002] (hpR A W N G))=true;rw[zty];rfl
 simp[g.ee,za5,hpR,lstV];refine⟨.inl rfl,_,Weak.refl _,[],rfl,rfl,?_⟩;simp[zbb,St.site,look]
theorem z3r(A:GAuto)(W:List Int)(N:Nat)(G:Nat->Nat->Nat):(zam ((hpL0 A W).map (·.1)) [.ptr 900000 0 0 0]&&hpOk ((hpL0 A W).map (·.1)) (hpL0 A W)&&zdi ((hpL0 A W).map (·.1)) (.av (.tup []))&&hpOk ((hpL0 A W).map (·.1)) (hpR A W N G))=true:=by have h:hpOk ((hpL0 A W).map (·.1)) (hpR A W N G)=true:=zty A W N G;rw[h];simp[hpOk,hpL0,lstV,zam,zce,zdi,ze5]
theorem z3q(A:GAuto)(W:List Int)(N:Nat)(G:Nat->Nat->Nat)(q:Int)(w:GW):(zam ((hpR A W N G).map (·.1)) [.ptr 900000 0 0 0,.p (.int .i64 q),.p (.int .i64 q),.nil,.p (enc w)]&&hpOk ((hpR A W N G).map (·.1)) (hpR A W N G)&&zdi ((hpR A W N G).map (·.1)) (.av (.tup []))&&hpOk ((hpR A W N G).map (·.1)) (hpR A W N G))=true:=by have h:hpOk ((hpR A W N G).map (·.1)) (hpR A W N G)=true:=zty A W N G;rw[h];simp[hpR,zam,zce,zdi]
noncomputable def wpS(A:GAuto)(W:List Int)(N k:Nat):St :=
 ⟨[(3,.ptr 3 0 0 0),(7,.ptr 7 0 0 0),(9,.ptr 900000 0 0 0),(39,.p (.sl (ens A.ini))),(40,.p (.int .i64 N)),(41,.p (.int .i64 k))],hpR A W N (f4 A N W 0)++[(3,[some ⟨7,[.p (enc A)]⟩]),(7,[some ⟨3,[.p (enc (natR (smI A (bw A N W) k)))]⟩]),(DEAD,[none])]⟩
theorem z36{A:GAuto}{g:Nat->Nat}{B:Nat}(hg:∀ t,g t<=B):∀ k,smI A g k<=k*B
 | 0=>yg4 _
 | k+1=>by have ih:=z36 (A:=A) hg k;have:=hg k;rw[ygt,smI];split<;>omega
theorem z40{A:GAuto}{W:List Int}{N:Nat}(hN:N<=64)(hil:A.ini.length=N)(hism:∀ w∈A.ini,w.sm 1048576)(hal:A.arcs.length<=2048)(hW:W.length<=900)
  {Q:Exit->St->Prop} {ks:List Kt} {st:St} (hw:Weak st (wpS A W N 0)) (hx:zb6 P 73 Q (zaw 1 ks) 1 (wpS A W N N)):vL P 73 Q g.mn ks st:=by
 refine zaj (S:=fun k:Nat=>wpS A W N k) (I:=fun k=>k<=N) (m:=fun k=>N - k) 0 hw (yg4 _) ?_;intro k hk R hn' hr hx';have e1:=i64s k;by_cases hlt:k<N
 ·have hend:∀ st',Weak st' (wpS A W N (k+1))->R .normal st':=fun st' h=>hn' (k+1) st' h (by omega) (by omega);have hqf:k<A.ini.length:=by omega
  have hg:A.ini.getD k A.ring.zero=A.ini[k]:=by rw[yfj,yfm hqf];rfl
  have hz:=ziu A.ring A.ini[k] (hism _ (yfi hqf));have enz:nzI A k = !decide (A.ini[k]=A.ring.zero):=by unfold nzI;rw[hg];simp
  have o1:=zj6 N (m:=W.length+1) (f4 A N W 0) (show 0<W.length+1 by omega);have r1:=zjy N (m:=W.length+1) (show 0<W.length+1 by omega);have g0:f4 A N W 0 0=bw A N W:=by unfold f4;rw[yf1 (yf8 _),yhx]
  rw[g0]at o1;have hb:∀ t,bw A N W t<=2048^W.length:=z7t hal N W;have b1:smI A (bw A N W) k<=2048^(W.length+1):=by have h1:=z36 (A:=A) hb k;have h2:k*2048^W.length<=2048*2048^W.length:=yg7 _ (by omega);rw[yfn,yfy];omega
  have hadd:=zfi (natR (smI A (bw A N W) k)) (natR (bw A N W k)) (zjn b1 (by omega)) (zjn (hb k) (by omega));rw[zj0]at hadd;have hs:smI A (bw A N W) (k+1)=if nzI A k=true then smI A (bw A N W) k+bw A N W k else smI A (bw A N W) k:=rfl
  have hm:=fun F=>zyf A W N F (k:Int) A.ini[k];have hmo:=fun F=>z3q A W N F (k:Int) A.ini[k];simp only[yd8]at hm hmo;rw[wpS,hs]at hend;have hrow:k<(rowG N (bw A N W)).length:=by rw[zbl];exact hlt
  simp[g.mn,wpS,hpR,lstV,hlt];refine zad hqf ?_;refine zaf hz ?_;by_cases hb:A.ini[k]=A.ring.zero
  ·have en:nzI A k=false:=by rw[enz,hb];simp
   rw[en]at hend;simp only[yfl,yf9]at hend;simp[hb,e1];refine hend _ (Weak.toF [3,7,9,39,40,41] [900000,900001,900002] [((3,0),3),((7,0),7)] ?_);simp[hpR,lstV];exact zcx N _ _
  ·have en:nzI A k=true:=by rw[enz];simp[hb]
   rw[en]at hend;simp only[yf2]at hend;simp[hb,zbf];rw[zeb];refine⟨_,r1,?_⟩;simp[rowC,o1,zbl,hlt];refine zad hrow ?_;rw[zg0];refine zaf hadd ?_;simp;refine zb7 (hm (f4 A N W 0)) (by simp[zb0]) (by simp[zbb,St.site,look,hpR,lstV]) rfl (hmo _) ?_;simp[zcd,hpR,lstV,e1];refine hend _ (Weak.toF [3,7,9,39,40,41] [900000,900001,900002] [((3,0),3),((7,0),7)] ?_);simp[hpR,lstV];exact zcx N _ _
 ·have:k=N:=by omega
  subst this;have hx2:=hx;simp[wpS,hpR,lstV]at hx2;simp[g.mn,wpS,hpR,lstV];exact hx' _ _ hx2
theorem z1u{a:GAuto}{n:Nat}(h:Lk a n){w:List Int}(hw:w.length<=256)(hl:∀ x∈w,1<=x/\x<=a.sy):Sp P F.nk [enc a,.sl (ens w),.int .i64 0] (.pure (.tup [.sl [],enc (natR (smI a.nf (bw a.nf a.st.toNat w) a.st.toNat)),.int .i64 0])):=by
 have hA:=h.ctr;have hr:=z1i h hw hl;have hst:a.nf.st=(a.st.toNat:Int):=hA.inN.st;have hN:=hA.N1;have fl:=hA.fl;have fsm:=h.fsm;have il:=h.il;have ism:=h.ism;have hal:=hA.al;have hAa:∀ x∈a.nf.arcs,0<=x.f/\fT x<a.st.toNat/\0<=x.t/\tT x<a.st.toNat:=fun x hx=>by have h1:=hA.inN.f x hx;have h2:=hA.t x hx;unfold fT tT;omega
 refine Sp.of_mr c.nj (by simp) ?_;unfold g.nj;generalize hR:(fun(ex:Exit) (st:St) (_:Option FA)=>retP [(6,none),(7,some 3),(8,none)] (RV.pure (.tup [.sl [],enc (natR (smI a.nf (bw a.nf a.st.toNat w) a.st.toNat)),.int .i64 0])) ex st)=R;generalize a.nf=A at *
 generalize a.st.toNat=N at *
 refine MR.gseq ?_;simp;refine MR.gseq ?_;simp;refine zaf hr ?_;simp;refine MR.gseq ?_;simp;refine MR.gseq ?_;simp
 refine MR.weak (st1:=⟨[(3,.ptr 3 0 0 0),(7,.ptr 7 0 0 0),(9,.ptr 900000 0 0 0)],hpL0 A w++[(3,[some ⟨7,[.p (enc A)]⟩]),(7,[some ⟨3,[.p (enc (natR 0))]⟩]),(DEAD,[none])]⟩)
  ((Weak.freezeTo (s:=7) (g:=0) (n:=3) [enc (natR 0)] [] rfl (by simp[zk2,ens]) (by simp) (by simp)).trans
  (zfj [3,7,9] [(900000,[(35,0)]),(900001,[]),(900002,[]),(3,[(3,0)]),(7,[(7,0)])] ?_ (fun σ => σ 35 0=(900000,0) /\ σ 3 0=(3,0) /\ σ 7 0=(7,0)) ?_ ?_)) ?_
 ·simp[ze4,zl6,zdy,PINB,DEAD,zct,killAll,St.setObj]
 ·simp[sgP,zfr,zdm,St.site,look,killAll,St.setObj]
 ·rintro σ ⟨s1,s2,s3⟩;simp[hpP,catS,sub,subO,subL,St.get,look,St.site,hpL0,s1,s2,s3,lstV,killAll,St.setObj]
 refine MR.of_vm ?_;simp[hpL0,lstV];refine zb7 (zvo (W:=w) hst hN fl fsm hAa hal (by omega)) (by simp[zb0]) (by simp[zbb,St.site,look,hpL0,lstV]) rfl (z3r A w N _) ?_;simp[zcd,hpR,lstV,il];refine z40 (W:=w) hN il ism hal (by omega) (Weak.toF [3,7,9,39,40,41] [900000,900001,900002] [((3,0),3),((7,0),7)] ?_) ?_
 ·simp[wpS,hpR,lstV,smI];exact zcx N _ _
 simp[wpS,hpR,lstV];subst hR;simp
end Go.Ab
namespace Go.Ab
open Enc (enc)
attribute [local simp] zai Opd.slots
theorem z7q{a:GAuto}{n:Nat}(h:Lk a n){w:List Int}(hw:w.length<=256):cntA a.nf a.st.toNat w<4294967296^1048576:=by
 have hA:=h.ctr;have hN:=hA.N1;have hf1:∀ t,bgN a.nf a.st.toNat t<=1:=fun t=>by unfold bgN;split<;>omega
 have hb:∀ t,fwd a.nf a.st.toNat (bgN a.nf a.st.toNat) w t<=2048^w.length:=by intro t;have:=zyz hA hf1 w 0 (by simpa using hf1) t;rw[Nat.zero_add]at this;exact this
 have h1:=zwr (A:=a.nf) hb a.st.toNat;have h2:a.st.toNat*2048^w.length<=2048*2048^w.length:=yg7 _ (by omega);have h3:2048*2048^w.length=2048^(w.length+1):=by rw[yfn,yfy]
 have h4:2048^(w.length+1)<4294967296^(w.length+1):=Nat.pow_lt_pow_left (by omega) (by omega);have h5:=yds 4294967296 (w.length+1) 1048576 (by omega) (by omega);unfold cntA;omega
end Go.Ab
namespace Go.Ab
open Enc (enc)
attribute [local simp] zai Opd.slots
end Go.Ab
namespace Go.Ab
open Enc (enc)
attribute [local simp] zai Opd.slots
theorem z0l(l:List Int)(m:Int)(most:Nat)(hm:1<=m)(hm2:m<=1000)(hmost:most<=1000):Sp P F.im [.sl (ens l),.int .i64 m,.int .i64 most] (.pure (.sl (ens ((l.take most).map fun x=>1+wthn x m)))):=by
 refine Sp.vz c.im fun _=>?_;simp[g.im]
 refine zaj (S:=fun k:Nat=>mkSt [(0,.p (.sl (ens l))),(1,.p (.int .i64 m)),(2,.p (.int .i64 most)),(7,.own 1 0 0 k),(8,.p (.int .i64 k))] [(1,⟨1,avs ((l.take k).map fun x=>1+wthn x m)⟩)]) (I:=fun k=>k<=l.length/\k<=most) (m:=fun k=>most - k) 0
  (Weak.nl 7 77 1 rfl (Weak.to [0,1,2,7,8] [((77,0),1)] (by simp))) ⟨by omega,by omega⟩ ?_
 rintro k ⟨h1,h2⟩ R hn' hr hx;have e3:=i64s k;have hend:l.length<=k\/most<=k->((l.take k).map fun x=>1+wthn x m)=(l.take most).map fun x=>1+wthn x m:=fun h=>by
  rcases h with h|h
  ·rw[yfw h,yfw (by omega)]
  ·rw[show k=most by omega]
 simp[g.pa,mkSt];refine⟨fun hk=>⟨fun hk2=>zad hk ?_,fun hk2=>hx _ _ ?_⟩,fun hk=>hx _ _ ?_⟩
 ·have hw:=zhu l[k] m (by omega);have h3:=zff l[k] hm;have e4:IntKind.i64.wrap (1+wthn l[k] m)=1+wthn l[k] m:=i64w (by omega) (by omega);have hts:avs ((l.take (k+1)).map fun x=>1+wthn x m)=avs ((l.take k).map fun x=>1+wthn x m)++[.p (enc (1+wthn l[k] m))]:=by rw[yfu hk,ygx,zd7];rfl
  simp only[yj0]at hts;generalize wthn l[k] m=z at *
  refine zaf hw ?_;simp[e3,e4];exact⟨⟨by omega,by omega⟩,hn' (k+1) _ (Weak.to [0,1,2,7,8] [((29,0),1)] (by simp[mkSt,hts])) ⟨by omega,by omega⟩ (by omega)⟩
 ·have:=hend (by omega);simp only[yj0]at this;simp[this];exact⟨by omega,by rw[<- this,yie,Nat.min_self]⟩
 ·have:=hend (by omega);simp only[yj0]at this;simp[this];exact⟨by omega,by rw[<- this,yie,Nat.min_self]⟩
theorem lawCounts_sp(p:GPlan)(l:List Int):Sp P F.ln [enc p,.sl (ens l)] (.pure (.bool true)):=by
 have M:Md (zvy wkT p 4):=z13 (by omega) (by omega);have ap:=z3u z0m p 4 (by omega) (by omega);have kn:=zva;generalize zvy wkT p 4=a at *
 have ok:=GAuto.vb_iff.1 M.lk.vb;have y1:=ok.sy1;have y2:=ok.sy2;have hA:=M.lk.ctr;have hwd:=z0l l a.sy 6 y1 (by omega) (by omega);have hlen:((l.take 6).map fun x=>1+wthn x a.sy).length<=6:=by rw[yig,yh8];omega
 have hlet:∀ c∈(l.take 6).map fun x=>1+wthn x a.sy,1<=c/\c<=a.sy:=by intro c hc;obtain⟨x,_,rfl⟩:=yf6.1 hc;have:=zff x y1;omega
 generalize ((l.take 6).map fun x=>1+wthn x a.sy)=w at *
 have hcs:=z28 M.lk (w:=w) (by omega) hlet;have hps:=z1u M.lk (w:=w) (by omega) hlet;have hAa:∀ x∈a.nf.arcs,0<=x.f/\fT x<a.st.toNat/\tT x<a.st.toNat:=fun x hx=>by have h1:=hA.inN.f x hx;have h2:=hA.t x hx;unfold fT tT;omega
 rw[<- ybc M.lk.srt hAa]at hps;have hlt:=z7q M.lk (w:=w) (by omega);have hcmp:=z7r _ _ hlt hlt;rw[yf0 (Nat.lt_irrefl _),yf0 (Nat.lt_irrefl _)]at hcmp;generalize cntA a.nf a.st.toNat w=n at *
 refine Sp.vz c.ln fun _=>?_;simp[g.ln];refine zaa ap (by simp[wkT]) ?_;simp;refine zaf hwd ?_;simp;refine zaf hcs ?_;simp;refine zaf hps ?_;simp;refine zaf kn ?_;simp;refine zaf hcmp ?_;simp
end Go.Ab
set_option linter.all false
namespace Go.Ab
open Enc (enc)
section
variable {H:Type} {en:TypeId × Value->H} {w:World}
theorem rdInt(n:Nat):RdN en P w n T.int (IsC Int):=z9l ty.int
theorem rdBool(n:Nat):RdN en P w n T.bool (IsC Bool):=z5t ty.bool
theorem rdInts(n:Nat):RdN en P w n T.ints (IsC (List Int)):=z1j (fun _=>rfl) (fun _=>rfl) ty.ints ty.cell fun k _=>rdInt k
theorem gplan_one(x:GPlan):(enc x).cells.all PV.one=true:=by simp[PV.cells]
theorem rdPlan(n:Nat):RdN en P w n T.plan (IsC GPlan):=zw5 (Ds:=[IsC Int,IsC Int,IsC Bool,IsC Bool,IsC (List Int)]) ty.plan rfl (fun m _=>⟨rdInt m,rdInt m,rdBool m,rdBool m,rdInts m,trivial⟩) fun ls h=>by obtain⟨_,ls1,rfl,⟨a,rfl⟩,h1⟩:=h.cons;obtain⟨_,ls2,rfl,⟨b,rfl⟩,h2⟩:=h1.cons;obtain⟨_,ls3,rfl,⟨c,rfl⟩,h3⟩:=h2.cons;obtain⟨_,ls4,rfl,⟨d,rfl⟩,h4⟩:=h3.cons;obtain⟨_,ls5,rfl,⟨e,rfl⟩,h5⟩:=h4.cons;obtain rfl:=h5.nil;exact⟨⟨a,b,c,d,e⟩,by simp[PV.cells]⟩
end
end Go.Ab
