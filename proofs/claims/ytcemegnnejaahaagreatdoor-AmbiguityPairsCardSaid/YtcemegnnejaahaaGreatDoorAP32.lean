/- Lemmas for the law AmbiguityOfDeterministic, part 32. No conditions. -/
import Derived.Test.YtcemegnnejaahaaGreatDoorAP31
set_option maxRecDepth 100000
set_option maxHeartbeats 4000000
set_option linter.all false
namespace Go.Ab
open Enc (enc)
attribute [local simp] zaj Opd.slots
noncomputable def ini0(A:GAuto)(N k:Nat):List Bool:=mp N fun q=>if q<k then decide (A.ini.getD q A.ring.zero≠A.ring.zero)else false
theorem z8f(A:GAuto){N k:Nat}(hk:k<N):(ini0 A N k).set k (decide (A.ini.getD k A.ring.zero≠A.ring.zero))=ini0 A N (k+1):=by
 unfold ini0;rw[zmp];apply zdm;intro q hq;by_cases h:q=k
 ·subst h;simp
 ·by_cases h2:q<k
  ·rw[yl9 h,ym0 h2,ym0 (by omega)]
  ·rw[yl9 h,yl9 h2,yl9 (by omega)]
theorem zx0{A:GAuto}{N k q:Nat}(hq:q<N):(ini0 A N k).getD q false=if q<k then decide (A.ini.getD q A.ring.zero≠A.ring.zero)else false:=by
 have hl:q<(ini0 A N k).length:=by unfold ini0;rw[zbr];exact hq
 rw[ym8,yma hl];simp only[ini0,zdv,ynj]
theorem zqy(A:GAuto)(N k:Nat):(ini0 A N k).length=N:=zbr _ _
noncomputable def g1S(A:GAuto)(N k:Nat):St :=
 mkSt [(1,.ptr 1 0 0 0),(3,.own 11 0 0 N),(4,.own 15 0 0 N),(17,.p (.int .i64 N)),(18,.p (.int .i64 k))] [(1,⟨8,[.p (enc (zat A))]⟩),(11,⟨1,avs (endV A N)⟩),(15,⟨1,avs (ini0 A N k)⟩)]
noncomputable def g3S(A:GAuto)(N:Nat)(s:List Bool × Bool):St :=
 mkSt [(1,.ptr 1 0 0 0),(3,.own 11 0 0 N),(4,.own 15 0 0 N),(6,.p (.bool s.2))] [(1,⟨8,[.p (enc (zat A))]⟩),(11,⟨1,avs (endV A N)⟩),(15,⟨1,avs s.1⟩)]
noncomputable def andV(E B:List Bool)(N k:Nat):List Bool:=mp N fun q=>if q<k then E.getD q false&&B.getD q false else E.getD q false
theorem zbf(E B:List Bool)(N k:Nat):(andV E B N k).length=N:=zbr _ _
theorem z9y{E B:List Bool}{N k:Nat}(hk:k<N):(andV E B N k).getD k false=E.getD k false:=by
 have hl:k<(andV E B N k).length:=by rw[zbf];exact hk
 rw[ym8,yma hl];simp[andV,zdv]
theorem z9x(E B:List Bool){N k:Nat}(hk:k<N):(andV E B N k).set k (E.getD k false&&B.getD k false)=andV E B N (k+1):=by
 unfold andV;rw[zmp];apply zdm;intro q hq;by_cases h:q=k
 ·subst h;simp
 ·by_cases h2:q<k
  ·rw[yl9 h,ym0 h2,ym0 (by omega)]
  ·rw[yl9 h,yl9 h2,yl9 (by omega)]
def g4S(N:Nat)(E B:List Bool)(k:Nat):St :=
 mkSt [(3,.own 11 0 0 N),(4,.own 15 0 0 N),(56,.p (.int .i64 N)),(57,.p (.int .i64 k))] [(11,⟨1,avs E⟩),(15,⟨1,avs B⟩)]
noncomputable def usV(A:GAuto)(N:Nat):List Bool:=andV (endV A N) (begV A N) N N
theorem zyg(A:GAuto)(N:Nat):(endV A N).length=N:=zbr _ _
theorem z9v(A:GAuto)(N:Nat):(begV A N).length=N:=zbr _ _
theorem ydw{N:Nat}(hN:N<=64){E B:List Bool}(hE:E.length=N)(hB:B.length=N){Q:Exit->St->Prop}{ks:List Kt}{st:St}(hw:Weak st (g4S N (andV E B N 0) B 0))
  (hx:zb8 P 75 Q (zay 6 ks) 6 (g4S N (andV E B N N) B N)):vL P 75 Q g.p8 ks st:=by
 refine zag (S:=fun k:Nat=>g4S N (andV E B N k) B k) (I:=fun k=>k<=N) (m:=fun k=>N - k) 0 hw (by omega) ?_;rintro k hk R hn hr hx';have e1:=i64s k;by_cases hlt:k<N
 ·have hlen:=zbf E B N k;have hg:=z9y (E:=E) (B:=B) hlt;have hs:=z9x E B hlt;have hkB:k<B.length:=by omega
  have gB:B.getD k false=B[k]:=by rw[ym8,yma hkB];rfl
  have hend:∀ st',Weak st' (g4S N (andV E B N (k+1)) B (k+1))->R .normal st':=fun st' h=>hn (k+1) st' h (by omega) (by omega);rw[<- hs]at hend;rw[gB]at hend;generalize andV E B N k=U at *
  generalize E.getD k false=b at *
  have hkU:k<U.length:=by omega
  have hU:U[k]=b:=by rw[<- hg,ym8,yma hkU];rfl
  simp[g.p8,g4S,mkSt,hlt];refine⟨by omega,zae hkU ?_⟩;rw[hU];cases b with
  | false =>
   simp only[Bool.false_and]at hend;simp[e1,hlt];refine⟨by omega,zae hkU ?_⟩;rw[zyz];exact hend _ (Weak.to [3,4,56,57] [((11,0),11),((15,0),15)] (by simp[g4S,mkSt]))
  | true =>
   simp only[ypb]at hend;simp[e1,hlt];refine⟨by omega,zae hkB ?_⟩;refine⟨by omega,zae hkU ?_⟩;rw[zyz];exact hend _ (Weak.to [3,4,56,57] [((11,0),11),((15,0),15)] (by simp[g4S,mkSt]))
 ·have:k=N:=by omega
  subst this;simp[g.p8,g4S,mkSt];exact hx' _ _ (by simpa[g4S,mkSt]using hx)
theorem zrs{A:GAuto}{N:Nat}(hA:CtrOk A N)(hil:A.ini.length=N)(hism:∀ w∈A.ini,w.sm 1048576):Sp P F.km [enc (zat A)] (.fresh 1 (ens (usV A N))):=by
 have hN:=hA.N1;have hst:(zat A).a.st=(N:Int):=hA.inN.st;have hva:(zat A).a=A:=rfl;have hal:=hA.al;have hr:∀ x∈A.arcs,(0<=x.f/\x.f<(N:Int))/\0<=x.t/\x.t<(N:Int):=fun x hx=>⟨hA.inN.f x hx,hA.t x hx⟩;have hd:∀ x∈A.arcs,tT x<N:=fun x hx=>by have:=hr x hx;unfold tT;omega
 have hen:=z8w hA;have hel:=zyg A N;refine Sp.vz c.km fun _=>?_;simp[g.km];refine zdh hen (by simp) ⟨by simp[ens],by omega,by simp[-zas,ens,LIM,hel];omega⟩ _ rfl ?_;simp[hst,hel];refine⟨by omega,?_⟩;refine zag (S:=fun k:Nat=>g1S A N k) (I:=fun k=>k<=N) (m:=fun k=>N - k) 0 (Weak.to [1,3,4,17,18] [((1,0),1),((11,0),11),((15,0),15)] ?_) (by omega) ?_
 ·have:ini0 A N 0=List.replicate N false:=by unfold ini0;rw[<- zi3];apply zdm;intro q _;simp
  simp[g1S,mkSt,this,hst]
 rintro k hk R hn hr' hx;have e1:=i64s k;by_cases hlt:k<N
 ·have hki:k<(zat A).a.ini.length:=by show k<A.ini.length;omega
  have hset:=z8f A hlt;have hg:A.ini.getD k A.ring.zero=A.ini[k]'(by omega):=by rw[ym8,yma (by omega)];rfl
  have hes:=ztt (zat A) k hki hism;have hdec:decide ((zat A).a.ini[k]≠(zat A).a.ring.zero)=decide (A.ini.getD k A.ring.zero≠A.ring.zero):=by rw[hg];rfl
  rw[hdec]at hes;have hfl:=zqy A N k;have hend:∀ st',Weak st' (g1S A N (k+1))->R .normal st':=fun st' h=>hn (k+1) st' h (by omega) (by omega);unfold g1S at hend ⊢;rw[<- hset]at hend;generalize ini0 A N k=u at *
  generalize decide (A.ini.getD k A.ring.zero≠A.ring.zero)=b at *
  simp[g.q9,mkSt,hlt];refine zab hes ?_;simp[hlt,e1,hfl];refine zae (by omega) ?_;rw[zyz];exact hend _ (Weak.to [1,3,4,17,18] [((1,0),1),((11,0),11),((15,0),15)] (by simp[mkSt]))
 ·have:k=N:=by omega
  subst this;have h00:∀ q,q<k->begP A k q->(ini0 A k k).getD q false=true:=fun q hq h=>by rw[zx0 hq,ym0 hq];exact decide_eq_true h.2
  have h01:∀ q,(ini0 A k k).getD q false=true->Mk fT tT A.arcs (begP A k) q:=fun q h=>by
   by_cases hq:q<k
   ·rw[zx0 hq,ym0 hq]at h;exact .base ⟨hq,of_decide_eq_true h⟩
   ·rw[ym8,yo6 (by rw[zqy];omega)]at h;cases h
  have hfl:=zqy A k k;simp[g.q9,g1S,mkSt];refine hx _ _ ?_;generalize ini0 A k k=u0 at *
  simp
  refine zag (S:=fun s:List Bool × Bool=>g3S A k s) (I:=fun s=>s.1.length=k/\(∀ q,q<k->begP A k q->s.1.getD q false=true)/\(∀ q,s.1.getD q false=true->Mk fT tT A.arcs (begP A k) q)/\(s.2=false->∀ x∈A.arcs,s.1.getD (fT x) false=true->s.1.getD (tT x) false=true))
   (m:=fun s=>2*cfB s.1+s.2.toNat) (u0,true) (Weak.to [1,3,4,6] [((1,0),1),((11,0),11),((15,0),15)] (by simp[g3S,mkSt])) ⟨hfl,h00,h01,fun h=>by cases h⟩ ?_
  rintro⟨u,b⟩ ⟨u1,u2,u3,u4⟩ R2 hn2 hr2 hx2;simp only at u1 u2 u3 u4;cases b with
  | false =>
   have he:=zxf u1 u2 (fun q h=>h.1) u3 (u4 rfl);have hbv:begV A k=u:=he.symm;have ha0:andV (endV A k) u k 0=endV A k:=by refine yoq (by rw[zbf,hel]) fun i h1 h2=>?_;have:=zbf (endV A k) u k 0;simp only[andV,zdv,yq4,ymb];rw[ym8,yma h2];rfl
   have hus:usV A k=andV (endV A k) u k k:=by unfold usV;rw[hbv]
   have hul:=zbf (endV A k) u k k;simp[g.ra,g3S,mkSt];refine hx2 _ _ ?_;simp[hel];refine ydw hN hel u1 (Weak.to [3,4,56,57] [((11,0),11),((15,0),15)] (by simp[g4S,mkSt,ha0])) ?_;rw[hus];generalize andV (endV A k) u k k=U at *
   simp[g4S,mkSt,hul]
  | true =>
   simp[g.ra,g3S,mkSt];refine ydx (v:=zat A) (A:=A.arcs) (N:=k) (E:=endV A k) hr (by omega) u1 (Weak.to [1,3,4,6,31,32,33] [((1,0),1),((11,0),11),((15,0),15)] (by simp[g2S,mkSt,hva])) ?_;obtain⟨p1,p2,p3⟩:=zqb (src:=fT) (dst:=tT) (A:=A.arcs) u1 hd A.arcs.length (ym9 _);have p4:=zjw (src:=fT) (dst:=tT) (A:=A.arcs) u1 hd (P:=Mk fT tT A.arcs (begP A k)) (fun x hx h=>.step hx h) u3 A.arcs.length (ym9 _);have p5:=zeq fT tT A.arcs u A.arcs.length;generalize pasU fT tT A.arcs u A.arcs.length=s at *
   simp[g2S,mkSt];refine hn2 s _ (Weak.to [1,3,4,6] [((1,0),1),((11,0),11),((15,0),15)] (by simp[g3S,mkSt])) ⟨by omega,fun q hq h=>p1 q (u2 q hq h),p4,fun hb x hx h=>?_⟩ ?_
   ·obtain⟨q1,q2⟩:=p2 hb;obtain⟨j,hj,rfl⟩:=yor.1 hx;rw[q1]at h ⊢;exact q2 j hj hj h
   ·obtain⟨w,b⟩:=s;cases b with
    | false=>obtain⟨rfl,_⟩:=p2 rfl;simp
    | true=>have:=p3 rfl;simp only[Bool.toNat_true]at this ⊢;omega
end Go.Ab
namespace Go.Ab
def zer:List Int->Nat
 | []=>0
 | x::l=>(if x=0 then 1 else 0)+zer l
section
variable {adj:Nat->List Nat} {N:Nat} (hN:∀ q,q<N->∀ y∈adj q,y<N)
inductive Tc (R:Nat->Nat->Prop):Nat->Nat->Prop
 | one {x y:Nat}:R x y->Tc R x y
 | more {x y z:Nat}:Tc R x y->R y z->Tc R x z
def Ad(adj:Nat->List Nat)(x y:Nat):Prop:=y∈adj x
structure Dst (adj:Nat->List Nat) (N:Nat) (s s':List Int):Prop where
 len:s'.length=N
 rng:∀ q,s'.getD q 0=0\/s'.getD q 0=1\/s'.getD q 0=2
 le:zer s'<=zer s
 grey:∀ q,s'.getD q 0=1 ↔ s.getD q 0=1
 blk:∀ q,s.getD q 0=2->s'.getD q 0=2
 acc:∀ q,s'.getD q 0=2->Acc (fun y x=>Ad adj x y) q
theorem Dst.trans{s s' s2:List Int}(h:Dst adj N s s')(k:Dst adj N s' s2):Dst adj N s s2 :=
 ⟨k.len,k.rng,ym6 k.le h.le,fun q=>(k.grey q).trans (h.grey q),fun q hq=>k.blk q (h.blk q hq),k.acc⟩
structure Din (adj:Nat->List Nat) (N:Nat) (s:List Int):Prop where
 len:s.length=N
 rng:∀ q,s.getD q 0=0\/s.getD q 0=1\/s.getD q 0=2
 acc:∀ q,s.getD q 0=2->Acc (fun y x=>Ad adj x y) q
end
theorem Tc.trans{R:Nat->Nat->Prop}{x y z:Nat}(h:Tc R x y)(k:Tc R y z):Tc R x z:=by
 induction k with
 | one k=>exact .more h k
 | more _ k ih=>exact .more ih k
section
variable {R:Nat->Nat->Prop}
end
section
variable {A:GAuto} {N:Nat} (hA:CtrOk A N)
include hA
end
section
variable {A:GAuto} {N:Nat} (hA:CtrOk A N) (hil:A.ini.length=N) (hb:begC A N<=1)
include hA hil hb
end
end Go.Ab
namespace Go.Ab
open Enc (enc)
attribute [local simp] zaj Opd.slots
abbrev ksF:List Nat:=[900000,900001,900002,900003,900004,900005]
end Go.Ab
namespace Go.Ab
structure Sx where
 s:List Bool
 f:List Nat
 r:Bool
abbrev Grp:=List Int × List Nat
section
variable (goal:Nat->Bool) (nxt:Nat->Nat->List Nat)
def Sx.vis(x:Sx)(n:Nat):Sx :=
 if x.s.getD n true=true then x else⟨x.s.set n true,x.f++[n],x.r||goal n⟩
def Sx.vs(x:Sx)(l:List Nat):Sx:=l.foldl (Sx.vis goal) x
def Sx.nx(l:Nat)(x:Sx)(g:List Nat):Sx:=g.foldl (fun x n=>x.vs goal (nxt n l)) x
def ze6(w:List Int)(g:List Nat):List Nat->List Grp->List Bool->Option (List Int) × List Grp × List Bool
 | [],q,s=>(none,q,s)
 | l::ls,q,s =>
  if (Sx.nx goal nxt l ⟨s,[],false⟩ g).f=[]then ze6 w g ls q (Sx.nx goal nxt l ⟨s,[],false⟩ g).s
  else if (Sx.nx goal nxt l ⟨s,[],false⟩ g).r=true then(some (w++[(l:Int)]),q,(Sx.nx goal nxt l ⟨s,[],false⟩ g).s)
  else ze6 w g ls (q++[(w++[(l:Int)],(Sx.nx goal nxt l ⟨s,[],false⟩ g).f)]) (Sx.nx goal nxt l ⟨s,[],false⟩ g).s
def labs(sy:Nat):List Nat:=(List.range sy).map (· + 1)
def sxQ(sy:Nat):Nat->List Grp->List Bool->Option (List Int)
 | 0,_,_=>none
 | _+1,[],_=>none
 | n+1,g::q,s=>match ze6 goal nxt g.1 g.2 (labs sy) q s with
  | (some v,_,_)=>some v
  | (none,q,s)=>sxQ sy n q s
def sx(sy size:Nat)(beg:List Nat):Option (List Int) :=
 if (Sx.vs goal ⟨List.replicate size false,[],false⟩ beg).r=true then some []
 else sxQ goal nxt sy (size+2) [([],(Sx.vs goal ⟨List.replicate size false,[],false⟩ beg).f)] (Sx.vs goal ⟨List.replicate size false,[],false⟩ beg).s
end
def mkd(s:List Bool)(m:Nat):Prop:=s.getD m true=true
def us(s:List Bool):Nat:=s.count false
theorem ydb(s:List Bool)(n m:Nat):mkd (s.set n true) m ↔ mkd s m\/m=n:=by
 unfold mkd;rw[ym8,ym8,yqp];by_cases h:n=m
 ·subst h;simp only[ym2];split<;>simp
 ·simp only[yl9 h];constructor
  ·exact .inl
  ·rintro(h1|h1)
   ·exact h1
   ·exact absurd h1.symm h
theorem z95:∀ (s:List Bool) (n:Nat),¬ mkd s n->us (s.set n true)+1=us s
 | [],n,h=>absurd (by simp[mkd]) h
 | b::s,0,h=>by
  cases b with
  | true=>exact absurd (by simp[mkd]) h
  | false=>simp[us]
 | b::s,n+1,h=>by
  have:=z95 s n (by simpa[mkd]using h);simp only[us,List.set_cons_succ,List.count_cons]at *
  omega
section
variable {goal:Nat->Bool} {nxt:Nat->Nat->List Nat}
theorem z0j(x:Sx)(n m:Nat):mkd (x.vis goal n).s m ↔ mkd x.s m\/m=n:=by
 unfold Sx.vis;split
 ·rename_i h;constructor
  ·exact .inl
  ·rintro(h1|rfl)
   ·exact h1
   ·exact h
 ·exact ydb _ _ _
theorem yba(x:Sx)(n m:Nat):m∈(x.vis goal n).f ↔ m∈x.f\/(m=n/\¬ mkd x.s n):=by
 unfold Sx.vis;split
 ·rename_i h;constructor
  ·exact .inl
  ·rintro(h1|⟨_,h1⟩)
   ·exact h1
   ·exact absurd h h1
 ·rename_i h;rw[ymc,ymj];constructor
  ·rintro(h1|h1)
   ·exact .inl h1
   ·exact .inr ⟨h1,h⟩
  ·rintro(h1|⟨h1,_⟩)
   ·exact .inl h1
   ·exact .inr h1
theorem z0k(x:Sx)(n:Nat):(x.vis goal n).s.length=x.s.length:=by
 unfold Sx.vis;split
 ·rfl
 ·simp
theorem z93(x:Sx)(n:Nat):us (x.vis goal n).s+(x.vis goal n).f.length=us x.s+x.f.length:=by
 unfold Sx.vis;split
 ·rfl
 ·rename_i h;have:=z95 x.s n h;simp only[ymy,ynl];omega
theorem yjw(x:Sx)(n:Nat)(h:x.r=x.f.any goal):(x.vis goal n).r=(x.vis goal n).f.any goal:=by
 unfold Sx.vis;split
 ·exact h
 ·simp[h]
theorem zh8(x:Sx)(n:Nat)(l:List Nat):x.vs goal (n::l)=(x.vis goal n).vs goal l:=rfl
theorem z0e:∀ (l:List Nat) (x:Sx) (m:Nat),mkd (x.vs goal l).s m ↔ mkd x.s m\/m∈l
 | [],x,m=>by simp[Sx.vs]
 | n::l,x,m=>by rw[zh8,z0e l,z0j,ym3,or_assoc]
theorem z0f:∀ (l:List Nat) (x:Sx),(x.vs goal l).s.length=x.s.length
 | [],_=>rfl
 | n::l,x=>by rw[zh8,z0f l,z0k]
theorem zyt:∀ (l:List Nat) (x:Sx),us (x.vs goal l).s+(x.vs goal l).f.length=us x.s+x.f.length
 | [],_=>rfl
 | n::l,x=>by rw[zh8,zyt l,z93]
theorem vs_r:∀ (l:List Nat) (x:Sx),x.r=x.f.any goal->(x.vs goal l).r=(x.vs goal l).f.any goal
 | [],_,h=>h
 | n::l,x,h=>by rw[zh8];exact vs_r l _ (yjw x n h)
theorem vs_f:∀ (l:List Nat) (x:Sx) (m:Nat),m∈(x.vs goal l).f->m∈x.f\/(m∈l/\¬ mkd x.s m)
 | [],x,m,h=>.inl h
 | n::l,x,m,h=>by
  rw[zh8]at h;rcases vs_f l _ m h with h|⟨h,h2⟩
  ·rcases(yba x n m).1 h with h|⟨rfl,h⟩
   ·exact .inl h
   ·exact .inr ⟨yne,h⟩
  ·exact .inr ⟨ymr _ h,fun h3=>h2 ((z0j x n m).2 (.inl h3))⟩
theorem z0g:∀ (l:List Nat) (x:Sx) (m:Nat),m∈x.f->m∈(x.vs goal l).f
 | [],_,_,h=>h
 | n::l,x,m,h=>by rw[zh8];exact z0g l _ m ((yba x n m).2 (.inl h))
theorem zrn:∀ (l:List Nat) (x:Sx) (m:Nat),mkd (x.vs goal l).s m->mkd x.s m\/m∈(x.vs goal l).f
 | [],x,m,h=>.inl h
 | n::l,x,m,h=>by
  rw[zh8]at h ⊢;rcases zrn l _ m h with h|h
  ·rcases(z0j x n m).1 h with h1|rfl
   ·exact .inl h1
   ·by_cases h2:mkd x.s m
    ·exact .inl h2
    ·exact .inr (z0g l _ m ((yba x m m).2 (.inr ⟨rfl,h2⟩)))
  ·exact .inr h
theorem yc2(l:Nat)(x:Sx)(n:Nat)(g:List Nat):Sx.nx goal nxt l x (n::g)=Sx.nx goal nxt l (x.vs goal (nxt n l)) g:=rfl
theorem zy7(l:Nat):∀ (g:List Nat) (x:Sx),Sx.nx goal nxt l x g=x.vs goal (g.flatMap fun n=>nxt n l)
 | [],_=>rfl
 | n::g,x=>by rw[yc2,zy7 l g];simp[Sx.vs,ymp,yo1]
inductive Ld (nxt:Nat->Nat->List Nat) (sy:Nat) (beg:List Nat):List Int->Nat->Prop
 | nil {n:Nat} (h:n∈beg):Ld nxt sy beg [] n
 | snoc {w:List Int} {m l n:Nat} (h:Ld nxt sy beg w m) (h1:1<=l) (h2:l<=sy) (h3:n∈nxt m l):Ld nxt sy beg (w++[(l:Int)]) n
theorem zqk{sy l:Nat}:l∈labs sy ↔ 1<=l/\l<=sy:=by
 unfold labs;rw[ym5];constructor
 ·rintro⟨a,h,rfl⟩;have:=yna.1 h;omega
 ·rintro⟨h1,h2⟩;exact⟨l - 1,yna.2 (by omega),by omega⟩
def GrOk(nxt:Nat->Nat->List Nat)(sy:Nat)(beg:List Nat)(q:List Grp):Prop:=∀ g∈q,∀ n∈g.2,Ld nxt sy beg g.1 n
theorem zob{sy:Nat}{beg:List Nat}{w:List Int}{g:List Nat}(hg:∀ n∈g,Ld nxt sy beg w n):∀ (ls:List Nat) (q:List Grp) (s:List Bool) (v:List Int) (q':List Grp) (s':List Bool),(∀ l∈ls,1<=l/\l<=sy) ->
  ze6 goal nxt w g ls q s=(some v,q',s')->∃ n,Ld nxt sy beg v n/\goal n=true
 | [],_,_,_,_,_,_,h=>by simp[ze6]at h
 | l::ls,q,s,v,q',s',hl,h=>by
  have ih:=zob hg ls;have hl2:∀ l∈ls,1<=l/\l<=sy:=fun x hx=>hl x (ymr _ hx);rw[ze6]at h;split at h
  ·exact ih _ _ _ _ _ hl2 h
  ·split at h
   ·rename_i hr;simp only[ym4,ym1]at h;rw[zy7]at hr;rw[vs_r _ _ (by rfl)]at hr;obtain⟨n,hn,hgn⟩:=yp2.1 hr;rcases vs_f _ _ _ hn with h1|⟨h1,_⟩
    ·cases h1
    ·obtain⟨m,hm,hnm⟩:=ymt.1 h1;have hll:=hl l yne;exact⟨n,h.1 ▸ .snoc (hg m hm) hll.1 hll.2 hnm,hgn⟩
   ·exact ih _ _ _ _ _ hl2 h
theorem zjo{sy:Nat}{beg:List Nat}{w:List Int}{g:List Nat}(hg:∀ n∈g,Ld nxt sy beg w n):∀ (ls:List Nat) (q:List Grp) (s:List Bool) (q':List Grp) (s':List Bool),(∀ l∈ls,1<=l/\l<=sy) ->
  ze6 goal nxt w g ls q s=(none,q',s')->GrOk nxt sy beg q->GrOk nxt sy beg q'/\s'.length=s.length/\us s'+q'.length<=us s+q.length/\(∀ m,mkd s m->mkd s' m)/\(∀ l∈ls,∀ n∈g,∀ m∈nxt n l,mkd s' m) /\
   (∀ x∈q,x∈q')/\(∀ m,mkd s' m->mkd s m\/(goal m=false/\∃ x∈q',m∈x.2))
 | [],q,s,q',s',_,h,hq=>by
  simp only[ze6,ym4,true_and]at h;obtain⟨rfl,rfl⟩:=h;exact⟨hq,rfl,ym9 _,fun _ h=>h,fun _ h=>absurd h (by simp),fun _ h=>h,fun _ h=>.inl h⟩
 | l::ls,q,s,q',s',hl,h,hq=>by
  have ih:=zjo hg ls;have hl2:∀ l∈ls,1<=l/\l<=sy:=fun x hx=>hl x (ymr _ hx);have hll:=hl l yne;rw[ze6]at h;rw[zy7]at h;have hu:=zyt (goal:=goal) (g.flatMap fun n=>nxt n l) ⟨s,[],false⟩;have hlen:=z0f (goal:=goal) (g.flatMap fun n=>nxt n l) ⟨s,[],false⟩;have hmk:=z0e (goal:=goal) (g.flatMap fun n=>nxt n l) ⟨s,[],false⟩;have hr:=vs_r (goal:=goal) (g.flatMap fun n=>nxt n l) ⟨s,[],false⟩ rfl;have hf:=vs_f (goal:=goal) (g.flatMap fun n=>nxt n l) ⟨s,[],false⟩;have hnew:=zrn (goal:=goal) (g.flatMap fun n=>nxt n l) ⟨s,[],false⟩;generalize Sx.vs goal ⟨s,[],false⟩ (g.flatMap fun n=>nxt n l)=x at *
  simp only[yo4,ymx]at hu;simp only at hlen hmk hf hnew;split at h
  ·rename_i hnil;obtain⟨a1,a2,a3,a4,a5,a6,a7⟩:=ih _ _ _ _ hl2 h hq;refine⟨a1,a2.trans hlen,by rw[hnil]at hu;simp only[yo4]at hu;omega,fun m hm=>a4 m ((hmk m).2 (.inl hm)),?_,a6,?_⟩
   ·intro k hk n hn m hm;rcases ym3.1 hk with rfl|hk
    ·exact a4 m ((hmk m).2 (.inr (ymt.2 ⟨n,hn,hm⟩)))
    ·exact a5 k hk n hn m hm
   ·intro m hm;rcases a7 m hm with h1|h1
    ·rcases hnew m h1 with h2|h2
     ·exact .inl h2
     ·rw[hnil]at h2;cases h2
    ·exact .inr h1
  ·rename_i hne;split at h
   ·simp at h
   ·rename_i hrf;have hq2:GrOk nxt sy beg (q++[(w++[(l:Int)],x.f)]):=by
     intro y hy n hn;rcases ymc.1 hy with hy|hy
     ·exact hq y hy n hn
     ·rw[ymj]at hy;subst hy;rcases hf n hn with h1|⟨h1,_⟩
      ·cases h1
      ·obtain⟨m,hm,hnm⟩:=ymt.1 h1;exact .snoc (hg m hm) hll.1 hll.2 hnm
    obtain⟨a1,a2,a3,a4,a5,a6,a7⟩:=ih _ _ _ _ hl2 h hq2;have hfl:1<=x.f.length:=yod.2 hne;refine⟨a1,a2.trans hlen,by simp only[ymy,ynl]at a3;omega,fun m hm=>a4 m ((hmk m).2 (.inl hm)),?_,fun y hy=>a6 y (yre _ hy),?_⟩
    ·intro k hk n hn m hm;rcases ym3.1 hk with rfl|hk
     ·exact a4 m ((hmk m).2 (.inr (ymt.2 ⟨n,hn,hm⟩)))
     ·exact a5 k hk n hn m hm
    ·intro m hm;rcases a7 m hm with h1|h1
     ·rcases hnew m h1 with h2|h2
      ·exact .inl h2
      ·refine .inr ⟨?_,_,a6 _ (List.mem_append_right _ (ymj.2 rfl)),h2⟩;cases hgm:goal m with
       | false=>rfl
       | true =>
        refine absurd ?_ hrf;rw[hr];exact yp2.2 ⟨m,h2,hgm⟩
     ·exact .inr h1
theorem zwf{sy:Nat}{beg:List Nat}:∀ (n:Nat) (q:List Grp) (s:List Bool) (v:List Int),GrOk nxt sy beg q->sxQ goal nxt sy n q s=some v->∃ n,Ld nxt sy beg v n/\goal n=true
 | 0,_,_,_,_,h=>by simp[sxQ]at h
 | _+1,[],_,_,_,h=>by simp[sxQ]at h
 | n+1,g::q,s,v,hq,h=>by
  rw[sxQ]at h;have hg:=hq g yne;have hq2:GrOk nxt sy beg q:=fun x hx=>hq x (ymr _ hx);have hL:∀ l∈labs sy,1<=l/\l<=sy:=fun l hl=>zqk.1 hl;split at h
  ·rename_i v' q' s' e;simp only[ym1]at h;subst h;exact zob hg _ _ _ _ _ _ hL e
  ·rename_i q' s' e;exact zwf n _ _ _ (zjo hg _ _ _ _ _ hL e hq2).1 h
theorem zwg{sy size:Nat}{beg:List Nat}:∀ (n:Nat) (q:List Grp) (s:List Bool),us s+q.length<n->GrOk nxt sy beg q->s.length=size->(∀ m,m∈beg->mkd s m) ->
  (∀ m,m<size->mkd s m->goal m=false/\((∀ l∈labs sy,∀ k∈nxt m l,mkd s k)\/∃ x∈q,m∈x.2))->(∀ m l,∀ k∈nxt m l,k<size)->(∀ m∈beg,m<size) ->
  sxQ goal nxt sy n q s=none->∀ w m,Ld nxt sy beg w m->goal m=false
 | 0,_,_,h,_,_,_,_,_,_,_=>by omega
 | n+1,[],s,_,_,_,hb,hi,hn,hbs,_=>by
  have key:∀ w m,Ld nxt sy beg w m->mkd s m/\m<size:=by
   intro w m h
   induction h with
   | nil h=>exact⟨hb _ h,hbs _ h⟩
   | snoc h h1 h2 h3 ih =>
    obtain⟨i1,i2⟩:=ih;rcases(hi _ i2 i1).2 with h4|⟨x,hx,_⟩
    ·exact⟨h4 _ (zqk.2 ⟨h1,h2⟩) _ h3,hn _ _ _ h3⟩
    ·cases hx
  exact fun w m h=>(hi m (key w m h).2 (key w m h).1).1
 | n+1,g::q,s,hm,hq,hsz,hb,hi,hn,hbs,h=>by
  rw[sxQ]at h;have hg:=hq g yne;have hq2:GrOk nxt sy beg q:=fun x hx=>hq x (ymr _ hx);have hL:∀ l∈labs sy,1<=l/\l<=sy:=fun l hl=>zqk.1 hl;split at h
  ·cases h
  ·rename_i q' s' e;obtain⟨a1,a2,a3,a4,a5,a6,a7⟩:=zjo hg _ _ _ _ _ hL e hq2;refine zwg n q' s' (by simp only[ymz]at hm;omega) a1 (a2.trans hsz) (fun m hm=>a4 m (hb m hm)) ?_ hn hbs h;intro m hml hms;rcases a7 m hms with h1|⟨h1,h2⟩
   ·obtain⟨i1,i2⟩:=hi m hml h1;refine⟨i1,?_⟩;rcases i2 with h3|⟨x,hx,hmx⟩
    ·exact .inl fun l hl k hk=>a4 k (h3 l hl k hk)
    ·rcases ym3.1 hx with rfl|hx
     ·exact .inl fun l hl k hk=>a5 l hl m hmx k hk
     ·exact .inr ⟨x,a6 x hx,hmx⟩
   ·exact⟨h1,.inr h2⟩
theorem z56(s:List Bool):us s<=s.length:=yqb
theorem zpp{sy size:Nat}{beg:List Nat}{v:List Int}(h:sx goal nxt sy size beg=some v):∃ n,Ld nxt sy beg v n/\goal n=true:=by
 unfold sx at h;have hf:=vs_f (goal:=goal) beg ⟨List.replicate size false,[],false⟩;have hr:=vs_r (goal:=goal) beg ⟨List.replicate size false,[],false⟩ rfl;generalize Sx.vs goal ⟨List.replicate size false,[],false⟩ beg=x at *
 have hfb:∀ n∈x.f,n∈beg:=fun n hn=>by
  rcases hf n hn with h1|h1
  ·cases h1
  ·exact h1.1
 split at h
 ·rename_i hrt;rw[hr]at hrt;obtain⟨n,hn,hg⟩:=yp2.1 hrt;simp only[ym1]at h;subst h;exact⟨n,.nil (hfb n hn),hg⟩
 ·refine zwf _ _ _ _ ?_ h;intro g hg n hn;rw[ymj]at hg;subst hg;exact .nil (hfb n hn)
theorem z05{sy size:Nat}{beg:List Nat}(hn:∀ m l,∀ k∈nxt m l,k<size)(hb:∀ m∈beg,m<size)(h:sx goal nxt sy size beg=none):∀ w m,Ld nxt sy beg w m->goal m=false:=by
 unfold sx at h;have hf:=vs_f (goal:=goal) beg ⟨List.replicate size false,[],false⟩;have hr:=vs_r (goal:=goal) beg ⟨List.replicate size false,[],false⟩ rfl;have hmk:=z0e (goal:=goal) beg ⟨List.replicate size false,[],false⟩;have hnew:=zrn (goal:=goal) beg ⟨List.replicate size false,[],false⟩;have hlen:=z0f (goal:=goal) beg ⟨List.replicate size false,[],false⟩;generalize Sx.vs goal ⟨List.replicate size false,[],false⟩ beg=x at *
 simp only[List.length_replicate]at hlen;split at h
 ·cases h
 ·rename_i hrf;have hfb:∀ n∈x.f,n∈beg:=fun n hn=>by
   rcases hf n hn with h1|h1
   ·cases h1
   ·exact h1.1
  refine zwg (size+2) _ _ ?_ ?_ hlen (fun m hm=>(hmk m).2 (.inr hm)) ?_ hn hb h
  ·have:=z56 x.s;simp only[ynl];omega
  ·intro g hg n hn;rw[ymj]at hg;subst hg;exact .nil (hfb n hn)
  ·intro m hm hms;rcases hnew m hms with h1|h1
   ·exfalso;unfold mkd at h1;rw[ym8,yrf,ym0 hm]at h1;cases h1
   ·refine⟨?_,.inr ⟨_,ymj.2 rfl,h1⟩⟩;cases hgm:goal m with
    | false=>rfl
    | true =>
     refine absurd ?_ hrf;rw[hr];exact yp2.2 ⟨m,h1,hgm⟩
theorem zwe{sy size:Nat}{beg:List Nat}(hn:∀ m l,∀ k∈nxt m l,k<size)(hb:∀ m∈beg,m<size):(sx goal nxt sy size beg).isSome=true ↔ ∃ w m,Ld nxt sy beg w m/\goal m=true:=by
 constructor
 ·intro h;obtain⟨v,hv⟩:=yov.1 h;obtain⟨n,hn⟩:=zpp hv;exact⟨v,n,hn⟩
 ·rintro⟨w,m,h1,h2⟩;cases hs:sx goal nxt sy size beg with
  | some v=>rfl
  | none=>rw[z05 hn hb hs w m h1]at h2;cases h2
end
end Go.Ab
namespace Go.Ab
open Enc (enc)
attribute [local simp] zaj Opd.slots
def stpL(F:List GArc)(l:Int):List GArc:=(F.dropWhile fun x=>decide (x.l<l)).takeWhile fun x=>decide (x.l=l)
theorem zkv{α : Type}{p : α -> Bool}:∀ {l:List α} {k:Nat},k<=l.length->(∀ i,(h:i<l.length)->i<k->p l[i]=true)->((h:k<l.length)->p l[k]=false)->l.dropWhile p=l.drop k
 | [],k,hk,_,_=>by simp at hk;subst hk;rfl
 | x::l,0,_,_,h2=>by
  have:=h2 (by simp);rw[List.dropWhile_cons_of_neg (by simpa using this)];rfl
 | x::l,k+1,hk,h1,h2=>by have h0:=h1 0 (by simp) (by omega);rw[List.dropWhile_cons_of_pos (by simpa using h0),List.drop_succ_cons];exact zkv (by simpa using hk) (fun i hi hik=>h1 (i+1) (by simpa using hi) (by omega)) fun h=>h2 (by simpa using h)
theorem zgs{α : Type}{p : α -> Bool}:∀ {l:List α} {k:Nat},k<=l.length->(∀ i,(h:i<l.length)->i<k->p l[i]=true)->((h:k<l.length)->p l[k]=false)->l.takeWhile p=l.take k
 | [],k,hk,_,_=>by simp
 | x::l,0,_,_,h2=>by
  have:=h2 (by simp);rw[List.takeWhile_cons_of_neg (by simpa using this)];rfl
 | x::l,k+1,hk,h1,h2=>by
  have h0:=h1 0 (by simp) (by omega);rw[List.takeWhile_cons_of_pos (by simpa using h0),List.take_succ_cons]
  congr 1
  exact zgs (by simpa using hk) (fun i hi hik=>h1 (i+1) (by simpa using hi) (by omega)) fun h=>h2 (by simpa using h)
def p1S(F:List GArc)(l:Int)(k:Nat):St:=mkSt [(2,.p (.int .i64 l)),(7,.p (.sl (ens (F.drop k))))] []
def p2S(D:List GArc)(l:Int)(k:Nat):St:=mkSt [(2,.p (.int .i64 l)),(7,.p (.sl (ens D))),(26,.p (.sl (ens D))),(27,.p (.int .i64 D.length)),(28,.p (.int .i64 k))] []
theorem ycw{D:List GArc}{l:Int}(hD:D.length<=100000){Q:Exit->St->Prop}{ks:List Kt}{st:St}(hw:Weak st (p2S D l 0))(hr:∀ s,s.get 6=.p (.sl (ens (D.takeWhile fun x=>decide (x.l=l))))->Q .ret s)
  (hx:D.takeWhile (fun x=>decide (x.l=l))=D->zb8 P 42 Q (zay 2 ks) 2 (p2S D l D.length)):vL P 42 Q g.o6 ks st:=by
 refine zag (S:=fun k:Nat=>p2S D l k) (I:=fun k=>k<=D.length/\∀ i,(h:i<D.length)->i<k->D[i].l=l) (m:=fun k=>D.length - k) 0 hw ⟨by omega,fun i _ hi=>by omega⟩ ?_;rintro k ⟨hk,hi⟩ R hn hr' hx';have e1:=i64s k;by_cases hlt:k<D.length
 ·simp[g.o6,p2S,mkSt,hlt];refine zae hlt ?_;refine⟨fun he=>?_,fun hne=>?_⟩
  ·rw[e1];refine hn (k+1) _ (Weak.to [2,7,26,27,28] [] (by simp[p2S,mkSt])) ⟨by omega,fun i hi1 hik=>?_⟩ (by omega);by_cases e:i=k
   ·subst e;exact he
   ·exact hi i hi1 (by omega)
  ·refine⟨by omega,?_⟩;refine hr' _ (hr _ ?_);rw[zgs hk (fun i hi1 hik=>by simpa using hi i hi1 hik) fun h=>by simpa using hne];simp
 ·have:k=D.length:=by omega
  subst this;simp[g.o6,p2S,mkSt];refine hx' _ _ ?_;simpa[p2S,mkSt]using hx (by rw[zgs hk (fun i hi1 hik=>by simpa using hi i hi1 hik) (fun h=>by omega),List.take_length])
theorem zv1(A:GAuto)(N q:Nat)(l:Int)(h:A.inN N)(hs:FS A.arcs)(hq:q<N)(hN:N<=1000)(hl:A.arcs.length<=100000):Sp P F.gr [enc (zat A),.int .i64 q,.int .i64 l] (.pure (.sl (ens (stpL (za7 A.arcs q) l)))):=by
 have hF:(za7 A.arcs q).length<=100000:=ym6 (ynk _ _) hl;have hfr:=z52 A N q h hs hq hN hl;generalize za7 A.arcs q=F at *
 refine Sp.vz c.gr fun _=>?_;generalize hR:retP [(6,none)] (.pure (.sl (ens (stpL F l))))=R;simp[g.gr];refine zab hfr ?_;simp;refine zag (S:=fun k:Nat=>p1S F l k) (I:=fun k=>k<=F.length/\∀ i,(h:i<F.length)->i<k->F[i].l<l) (m:=fun k=>F.length - k) 0 (Weak.to [2,7] [] (by simp[p1S,mkSt])) ⟨by omega,fun i _ hi=>by omega⟩ ?_;rintro k ⟨hk,hi⟩ R1 hn hr hx;have hD:(F.drop k).length<=100000:=by rw[yow];omega
 have fin:((h:k<F.length)->¬ F[k].l<l)->∀ st',Weak st' (p2S (F.drop k) l 0)->vL P 42 R g.o6 [.blk 2,.code (.seq (.reg [⟨some 41,.mv (.t 7),none⟩,⟨some 6,.mv (.t 41),none⟩] [[2,7,26,27,28],[41]]) .ret)] st':=by
  intro hge st' hw;have hstp:stpL F l=(F.drop k).takeWhile fun x=>decide (x.l=l):=by unfold stpL;rw[zkv hk (fun i h1 h2=>by simpa using hi i h1 h2) fun h=>by simpa using hge h]
  refine ycw hD hw (fun s hs=>?_) (fun he=>?_)
  ·have hs':look s.sl 6 AV.undef=_:=hs;rw[<- hR,hstp];simp[hs']
  ·rw[<- hR,hstp,he];simp[p2S,mkSt]
 by_cases hlt:k<F.length
 ·have hd:F.drop k=F[k]::F.drop (k+1):=ynt hlt;simp[g.q6,p1S,mkSt];refine⟨fun _=>⟨F[k],by rw[hd];rfl,fun hl=>⟨by omega,?_⟩,fun hl=>?_⟩,fun h=>by omega⟩
  ·rw[ymh (by rw[yow];omega)];exact hn (k+1) _ (Weak.to [2,7] [] (by simp[p1S,mkSt])) ⟨by omega,fun i h1 h2=>by
    by_cases e:i=k
    ·subst e;exact hl
    ·exact hi i h1 (by omega)⟩ (by omega)
  ·refine hx _ _ ?_;simp;exact fin (fun _=>by omega) _ (Weak.to [2,7,26,27,28] [] (by simp[p2S,mkSt]))
 ·have:k=F.length:=by omega
  subst this;have hnil:F.drop F.length=[]:=List.drop_length;simp[g.q6,p1S,mkSt];refine hx _ _ ?_;simp;refine fin (fun h=>by omega) _ (Weak.to [2,7,26,27,28] [] (by simp[p2S,mkSt]))
structure Sv where
 x:Sx
 m:Nat
 d:Nat
def Sv.vis(goal:Nat->Bool)(v:Sv)(n:Nat):Sv:=if v.x.s.getD n true=true then v else⟨v.x.vis goal n,if v.x.f=[]then v.m else v.m+1,v.d⟩
def Sv.vs(goal:Nat->Bool)(v:Sv)(l:List Nat):Sv:=l.foldl (Sv.vis goal) v
theorem zps(goal:Nat->Bool)(v:Sv)(n:Nat):(v.vis goal n).x=v.x.vis goal n:=by unfold Sv.vis Sx.vis;split<;>rfl
theorem zwh(goal:Nat->Bool)(v:Sv)(n:Nat):(v.vis goal n).d=v.d:=by unfold Sv.vis;split<;>rfl
theorem zt5(goal:Nat->Bool):∀ (l:List Nat) (v:Sv),(v.vs goal l).x=v.x.vs goal l
 | [],_=>rfl
 | n::l,v=>by have:=zt5 goal l (v.vis goal n);rw[zps]at this;exact this
theorem zt6(goal:Nat->Bool):∀ (l:List Nat) (v:Sv),(v.vs goal l).d=v.d
 | [],_=>rfl
 | n::l,v=>by have:=zt6 goal l (v.vis goal n);rw[zwh]at this;exact this
def natI(l:List Nat):List Int:=l.map fun(n:Nat)=>(n:Int)
def fnd(m:Nat):List Nat->AV
 | []=>.nil
 | n::l=>.own 900003 m 0 (n::l).length
def fob(m:Nat):List Nat->List (Option AObj)
 | []=>List.replicate m none
 | n::l=>List.replicate m none++[some ⟨1,avs (natI (n::l))⟩]
def visC:List AV:=[.ptr 900000 0 0 0,.ptr 900002 0 0 0,.ptr 900004 0 0 0,.ptr 900005 0 0 0]
def visV:AV:=.fn F.bz visC
def visO(d:Nat)(cc:Bool):List (Option AObj):=List.replicate d none++(if cc=true then[some ⟨1,[visV]⟩]else[])
def hpZ(size:Nat)(gl:PV)(v:Sv)(cc:Bool):List Site:=[(900000,[some ⟨1,[.own 900001 0 0 size]⟩]),(900001,[some ⟨1,avs v.x.s⟩]),(900002,[some ⟨1,[fnd v.m v.x.f]⟩]),(900003,fob v.m v.x.f),(900004,[some ⟨1,[.p (.bool v.x.r)]⟩]),(900005,[some ⟨1,[.p gl]⟩]),(900006,visO v.d cc)]
abbrev ks7:List Nat:=[900000,900001,900002,900003,900004,900005,900006]
theorem zh6(m:Nat)(f:List Nat):zda ks7 (fnd m f)=true:=by cases f<;>rfl
theorem zvt(ks:List Nat)(m:Nat):(List.replicate m (none:Option AObj)).all (zig ks)=true:=by rw[ymn];intro x hx;rw[List.eq_of_mem_replicate hx];rfl
theorem zh5(m:Nat)(f:List Nat):(fob m f).all (zig ks7)=true:=by
 cases f with
 | nil=>exact zvt _ _
 | cons n l =>
  simp only[fob,List.all_append,zvt,ypb,yph,List.all_nil,Bool.and_true];show zax _ (avs (natI (n::l)))=true;simp
theorem zgk(d:Nat)(cc:Bool):(visO d cc).all (zig ks7)=true:=by unfold visO;rw[List.all_append,zvt,ypb];cases cc<;>rfl
theorem zbq(size:Nat)(gl:PV)(v:Sv)(cc:Bool):hpOk ks7 (hpZ size gl v cc)=true:=by have h1:=zh5 v.m v.x.f;have h2:=zgk v.d cc;have h3:=zh6 v.m v.x.f;simp only[hpOk,hpZ,yph,List.all_nil,h1,h2,Bool.and_true,zig,zax,h3];simp[zda]
theorem zf8(size:Nat)(gl:PV)(v:Sv)(cc:Bool):(hpZ size gl v cc).all (fun q=>decide (PINB<=q.1)&&decide (q.1<999999))=true:=by simp[hpZ,PINB]
theorem zux(st:St):∀ l:List PV,(l.map AV.p).mapM (toPV st FUEL)=some l
 | []=>rfl
 | x::l=>by have:=zux st l;rw[ymi,yoe,this];rfl
def FnSp(gl:PV)(args:List PV)(r:PV):Prop:=match gl with
 | .fn f caps=>Sp P f (args++caps) (.pure r)
 | .bm f v=>Sp P f (v::args) (.pure r)
 | _=>False
theorem zge{st:St}{e:Nat}{gl:PV}{args:List PV}{r:PV}{K:PCall->AV->St->Prop}(h:FnSp gl args r)(hr:r.flatU=true)(k:∀ cc,K cc (.p r) st):zc7 P st e (.p gl) (args.map .p) K:=by
 cases gl with
 | fn f caps =>
  refine zaa (args:=args++caps) h (by rw[<- List.map_append];exact zux st _) ?_;rw[ym0 hr];exact k _
 | bm f v =>
  refine zaa (args:=v::args) h (zux st (v::args)) ?_;rw[ym0 hr];exact k _
 | _=>exact h.elim
theorem z6y(l:List Bool)(i:Nat)(v:Bool):(avs l).set i (.p (.bool v))=avs (l.set i v):=by show(avs l).set i (.p (enc v))=_;simp[-zas,avs,ens,yoo]
theorem zls{size:Nat}{gl:PV}{goal:Nat->Bool}(hg:∀ n,n<size->FnSp gl [.int .i64 (n:Nat)] (.bool (goal n))){v:Sv}(hl:v.x.s.length=size)(hf:v.x.f.length<=100000){n:Nat}(hn:n<size)(cc:Bool) :
  HSp P F.bz (.p (.int .i64 n)::visC) (hpZ size gl v cc) (.tup []) (hpZ size gl (v.vis goal n) cc):=by
 have hns:n<v.x.s.length:=by omega
 have gs:v.x.s.getD n true=v.x.s[n]:=by rw[ym8,yma hns];rfl
 have h2:=zh5 v.m v.x.f;have h3:=zgk v.d cc;have h4:=zh6 v.m v.x.f;refine HSp.of_mr c.bz (by simp[visC]) (zf8 _ _ _ _) rfl ?_ fun A0 hA0=>MR.of_vm ?_
 ·show(true&&hpOk ks7 (hpZ size gl _ cc))=true;rw[zbq];rfl
 have hs1:=zpi v.x.s;by_cases hm:v.x.s[n]=true
 ·have hv:v.vis goal n=v:=by unfold Sv.vis;rw[gs,ym0 hm]
  rw[hv];simp[g.bz,zbb,hpZ,visC,hn];refine⟨by omega,zae hns ?_⟩;simp[hm];refine⟨.inr rfl,_,Weak.refl _,_,rfl,?_,?_⟩
  ·rfl
  ·simp[zbk,St.site,look]
 ·have hm':v.x.s[n]=false:=by simpa using hm
  have hv:v.vis goal n=⟨⟨v.x.s.set n true,v.x.f++[n],v.x.r||goal n⟩,if v.x.f=[]then v.m else v.m+1,v.d⟩:=by unfold Sv.vis Sx.vis;rw[gs,yl9 hm,yl9 hm]
  rw[hv];obtain⟨⟨s,f,r⟩,m,d⟩:=v;simp only at *
  have hvo:∀ σ : Sg,σ 900000 0=(900000,0) -> σ 900002 0=(900002,0) -> σ 900004 0=(900004,0) -> σ 900005 0=(900005,0)->(visO d cc).map (Option.map (subO σ))=visO d cc:=by intro σ s1 s2 s3 s4;unfold visO;rw[ynm,List.map_replicate];cases cc<;>simp[subO,subL,sub,visV,visC,s1,s2,s3,s4]
  cases f with
  | nil =>
   have fin:∀ rr r0:Bool,retH [] (.tup []) (hpZ size gl ⟨⟨s.set n true,[n],rr⟩,m,d⟩ cc) .normal ⟨[],[(900004,[some ⟨1,[.p (.bool rr)]⟩]),(900002,[some ⟨1,[.own 17 0 0 1]⟩]),(17,[some ⟨1,[.p (.int .i64 n)]⟩]),(16,[some ⟨1,[.p (.int .i64 n)]⟩]),(900001,[some ⟨1,avs (s.set n true)⟩]),
     (900000,[some ⟨1,[.own 900001 0 0 size]⟩]),(900001,[some ⟨1,avs s⟩]),(900002,[some ⟨1,[.nil]⟩]),(900003,List.replicate m none),(900004,[some ⟨1,[.p (.bool r0)]⟩]),(900005,[some ⟨1,[.p gl]⟩]),(900006,visO d cc)]⟩:=by
    intro rr r0
    refine⟨.inr rfl,⟨[],hpZ size gl ⟨⟨s.set n true,[n],rr⟩,m,d⟩ cc++[(DEAD,[none])]⟩,zjv [] [(900000,[(900000,0)]),(900001,[(900001,0)]),(900002,[(900002,0)]),(900003,[(900003,0),(17,0)]),(900004,[(900004,0)]),(900005,[(900005,0)]),(900006,[(900006,0)])] ?_
     (fun σ => σ 900000 0=(900000,0) /\ σ 900001 0=(900001,0) /\ σ 900002 0=(900002,0) /\ σ 17 0=(900003,m) /\ σ 900004 0=(900004,0) /\ σ 900005 0=(900005,0)) ?_ ?_,[],rfl,rfl,?_⟩
    ·simp[zh3,zuq,zfl,PINB,DEAD,zes]
    ·simp[sgP,zhw,zej,St.site,look]
    ·rintro σ ⟨s1,s2,s3,s4,s5,s6⟩;have e:=zia σ (s.set n true);rw[<- z6y]at e;simp[hpP,catS,sub,subO,subL,St.get,look,St.site,hpZ,fnd,fob,natI,s2,s4,e,hvo σ s1 s3 s5 s6]
    ·simp[zbk,St.site,look,hpZ,DEAD]
   simp[g.bz,zbb,hpZ,visC,hn,fnd,fob];refine⟨by omega,zae hns ?_⟩;simp[-zc7,hm',hn,hl];refine zae hns ?_;rw[z6y];cases r with
   | true =>
    simp;simpa[hpZ,fnd,fob]using fin true true
   | false =>
    simp[-zc7];refine zge (hg n hn) rfl fun c=>?_;simp;simpa[hpZ,fnd,fob]using fin (goal n) false
  | cons a l =>
   have hnl:l.length+1=(natI (a::l)).length:=by simp[natI]
   have hna:avs (natI (a::l))++[.p (.int .i64 n)]=avs (natI (a::(l++[n]))):=by rw[show natI (a::(l++[n]))=natI (a::l)++[(n:Int)] by simp[natI],zce];rfl
   have hlen:l.length<=100000:=by simp only[ymz]at hf;omega
   have fin:∀ rr r0:Bool,retH [] (.tup []) (hpZ size gl ⟨⟨s.set n true,a::(l++[n]),rr⟩,m+1,d⟩ cc) .normal ⟨[],[(900004,[some ⟨1,[.p (.bool rr)]⟩]),(900002,[some ⟨1,[.own 17 0 0 (l.length+1+1)]⟩]),(17,[some ⟨1,avs (natI (a::(l++[n])))⟩]),(900003,List.replicate m none++[none]),(16,[some ⟨1,[.p (.int .i64 n)]⟩]),(900001,[some ⟨1,avs (s.set n true)⟩]),
     (900000,[some ⟨1,[.own 900001 0 0 size]⟩]),(900001,[some ⟨1,avs s⟩]),(900002,[some ⟨1,[.own 900003 m 0 (l.length+1)]⟩]),(900003,List.replicate m none++[some ⟨1,avs (natI (a::l))⟩]),(900004,[some ⟨1,[.p (.bool r0)]⟩]),(900005,[some ⟨1,[.p gl]⟩]),(900006,visO d cc)]⟩:=by
    intro rr r0;clear hna;generalize hX:natI (a::(l++[n]))=X;generalize natI (a::l)=Y;have hfn:∀ k,fnd k (a::(l++[n]))=.own 900003 k 0 (l.length+1+1):=by intro k;simp[fnd]
    have hfo:∀ k,fob k (a::(l++[n]))=List.replicate k none++[some ⟨1,avs X⟩]:=by intro k;rw[<- hX];rfl
    refine⟨.inr rfl,⟨[],hpZ size gl ⟨⟨s.set n true,a::(l++[n]),rr⟩,m+1,d⟩ cc++[(DEAD,[none])]⟩,zjv [] [(900000,[(900000,0)]),(900001,[(900001,0)]),(900002,[(900002,0)]),(900003,[(900003,0),(17,0)]),(900004,[(900004,0)]),(900005,[(900005,0)]),(900006,[(900006,0)])] ?_
     (fun σ => σ 900000 0=(900000,0) /\ σ 900001 0=(900001,0) /\ σ 900002 0=(900002,0) /\ σ 17 0=(900003,m+1) /\ σ 900004 0=(900004,0) /\ σ 900005 0=(900005,0)) ?_ ?_,[],rfl,rfl,?_⟩
    ·simp[zh3,zuq,zfl,PINB,DEAD,zes]
    ·simp[sgP,zhw,zej,St.site,look]
    ·rintro σ ⟨s1,s2,s3,s4,s5,s6⟩;have e:=zia σ (s.set n true);have e2:=zia σ X;rw[<- z6y]at e;simp[hpP,catS,sub,subO,subL,St.get,look,St.site,hpZ,hfn,hfo,s2,s4,e,e2,hvo σ s1 s3 s5 s6];rw[ypq];simp
    ·simp[zbk,St.site,look,hpZ,DEAD]
   simp[g.bz,zbb,hpZ,visC,hn,fnd,fob];refine⟨by omega,zae hns ?_⟩;simp[-zc7,hm',hn,hl];refine zae hns ⟨⟨hnl,by omega⟩,?_⟩;rw[z6y,hna];cases r with
   | true =>
    simp;simpa[hpZ,fnd,fob]using fin true true
   | false =>
    simp[-zc7];refine zge (hg n hn) rfl fun c=>?_;simp;simpa[hpZ,fnd,fob]using fin (goal n) false
structure GPaths where
 v:GView
 u:List Bool
instance:Enc GPaths:=⟨fun x=>.agg [.int .i64 x.v.a.ring.kind,.sl (ens x.v.a.ring.parts),.int .i64 x.v.a.sy,.int .i64 x.v.a.st,.sl (ens x.v.a.ini),.sl (ens x.v.a.fin),.sl (ens x.v.a.arcs),.sl (ens x.v.first),.sl (ens x.u)],9,by decide,fun _=>rfl⟩
@[simp] theorem yhc(x:GPaths):enc x=.agg [.int .i64 x.v.a.ring.kind,.sl (ens x.v.a.ring.parts),.int .i64 x.v.a.sy,.int .i64 x.v.a.st,.sl (ens x.v.a.ini),.sl (ens x.v.a.fin),.sl (ens x.v.a.arcs),.sl (ens x.v.first),.sl (ens x.u)]:=rfl
@[simp] theorem yd3:Enc.sz GPaths=9:=rfl
def pth(A:GAuto)(U:List Bool):GPaths:=⟨zat A,U⟩
def tgS(A:GAuto)(U:List Bool)(q:Nat)(l:Int):List Nat:=((stpL (za7 A.arcs q) l).map tT).filter fun t=>U.getD t false
structure Vtr (size:Nat) (gl:PV) (cc:Bool) (f:FuncId) (caps:List AV) (I:Sv->Prop) (s:Sv->Nat->Sv) (U:List Bool):Prop where
 ok:zax ks7 caps=true
 nu:caps.all zcf=true
 sp:∀ v x,I v->x<U.length->U.getD x false=true->HSp P f (.p (.int .i64 (x:Nat))::caps) (hpZ size gl v cc) (.tup []) (hpZ size gl (s v x) cc)
 nx:∀ v x,I v->x<U.length->U.getD x false=true->I (s v x)
theorem z9p{size:Nat}{gl:PV}{cc:Bool}{f:FuncId}{caps:List AV}{I:Sv->Prop}{s:Sv->Nat->Sv}{U:List Bool}(h:Vtr size gl cc f caps I s U){v:Sv}{x:Nat}(hI:I v)(hx:x<U.length)(hu:U.getD x false=true){st:St}{e:Nat}{K:PCall->AV->St->Prop}
  (hk:zbk st (hpZ size gl v cc) (hpZ size gl v cc)) (k:∀ c',K c' (.tup []) ⟨st.sl,hpZ size gl (s v x) cc++st.hp⟩):zc7 P st e (.fn f caps) [.p (.int .i64 (x:Nat))] K:=by
 refine zcs (h.sp v x hI hx hu) ?_ hk rfl ?_ (k _)
 ·rw[yrb,yph,h.nu];rfl
 ·have h1:=zbq size gl v cc;have h2:=zbq size gl (s v x) cc;show(zax ks7 (.p (.int .i64 (x:Nat))::caps)&&hpOk ks7 (hpZ size gl v cc)&&zen ks7 (.av (.tup []))&&hpOk ks7 (hpZ size gl (s v x) cc))=true;rw[h1,h2,zax,h.ok];rfl
def toS(A:GAuto)(U:List Bool)(V:AV)(L:List GArc)(hp:List Site)(k:Nat):St :=
 ⟨[(3,V),(4,.ptr 4 0 0 0),(14,.p (.sl (ens L))),(15,.p (.int .i64 L.length)),(16,.p (.int .i64 k))],hp++[(4,[some ⟨9,[.p (enc (pth A U))]⟩]),(DEAD,[none])]⟩
def tgL(U:List Bool)(L:List GArc):List Nat:=(L.map tT).filter fun t=>U.getD t false
theorem z6i(U:List Bool)(L:List GArc){k:Nat}(h:k<L.length):tgL U (L.take (k+1))=tgL U (L.take k)++(if U.getD (tT L[k]) false=true then[tT L[k]]else[]):=by
 unfold tgL;rw[ymg h,ynm,yot]
 congr 1
 simp only[ymi,yq3,yng,List.filter_nil]
theorem zv0{size:Nat}{gl:PV}{cc:Bool}{f:FuncId}{caps:List AV}{I:Sv->Prop}{s:Sv->Nat->Sv}{U:List Bool}(h:Vtr size gl cc f caps I s U):∀ (l:List Nat) (v:Sv),I v->(∀ x∈l,x<U.length/\U.getD x false=true)->I (l.foldl s v)
 | [],_,hI,_=>hI
 | x::l,v,hI,hl=>zv0 h l _ (h.nx v x hI (hl x yne).1 (hl x yne).2) fun y hy=>hl y (ymr _ hy)
theorem z02{U:List Bool}{L:List GArc}{N:Nat}(hU:U.length=N)(hL:∀ x∈L,0<=x.t/\x.t<(N:Int)):∀ x∈tgL U L,x<U.length/\U.getD x false=true:=by intro x hx;obtain⟨h1,h2⟩:=yn3.1 hx;obtain⟨y,hy,rfl⟩:=ym5.1 h1;have:=hL y hy;exact⟨by unfold tT;omega,h2⟩
theorem zi5{α : Type}{p : α -> Bool}{x : α}:∀ l:List α,x∈l.takeWhile p->p x=true
 | [],h=>by cases h
 | y::l,h=>by
  rw[List.takeWhile_cons]at h;split at h
  ·rename_i hp;rcases ym3.1 h with rfl|h
   ·exact hp
   ·exact zi5 l h
  ·cases h
theorem zhl{F:List GArc}{l:Int}{x:GArc}(h:x∈stpL F l):x∈F/\x.l=l:=by unfold stpL at h;have h1:=(List.takeWhile_sublist _).subset h;refine⟨(List.dropWhile_sublist _).subset h1,?_⟩;exact of_decide_eq_true (zi5 (p:=fun x:GArc=>decide (x.l=l)) _ h)
theorem zru{A:GAuto}{N:Nat}(hA:CtrOk A N){U:List Bool}(hU:U.length=N){size:Nat}{gl:PV}{cc:Bool}{f:FuncId}{caps:List AV}{I:Sv->Prop}{s:Sv->Nat->Sv}(h:Vtr size gl cc f caps I s U){q:Nat}(hq:q<N)(l:Int){v:Sv}(hI:I v) :
  HSp P F.ax [.p (enc (pth A U)),.p (.int .i64 q),.p (.int .i64 l),.fn f caps] (hpZ size gl v cc) (.tup []) (hpZ size gl ((tgS A U q l).foldl s v) cc):=by
 have hN:=hA.N1;have hal:=hA.al;have hst:=zv1 A N q l hA.inN hA.fs hq (by omega) (by omega);have hLm:∀ x∈stpL (za7 A.arcs q) l,0<=x.t/\x.t<(N:Int):=fun x hx=>hA.t x (yn3.1 (zhl hx).1).1;have hLl:(stpL (za7 A.arcs q) l).length<=2048:=by refine ym6 ((List.takeWhile_sublist _).length_le) (ym6 ((List.dropWhile_sublist _).length_le) (ym6 (ynk _ _) hal))
 have htg:tgS A U q l=tgL U (stpL (za7 A.arcs q) l):=rfl;rw[htg];generalize stpL (za7 A.arcs q) l=L at *
 have hcs:=zju (ids:=[((4,0),4)]) h.ok;refine HSp.of_mr c.ax (by simp) (zf8 _ _ _ _) rfl ?_ fun A0 hA0=>MR.of_vm ?_
 ·show(true&&hpOk ks7 (hpZ size gl _ cc))=true;rw[zbq];rfl
 simp[g.ax,zbb,hpZ];refine zaa hst (by simp[pth]) ?_;simp[-zc7];have hf2:=fun v:Sv=>zh5 v.m v.x.f;have hf3:=fun v:Sv=>zgk v.d cc;have hf4:=fun v:Sv=>zh6 v.m v.x.f;refine zag (S:=fun k:Nat=>toS A U (.fn f caps) L (hpZ size gl ((tgL U (L.take k)).foldl s v) cc) k) (I:=fun k=>k<=L.length) (m:=fun k=>L.length - k) 0 (Weak.toF [3,4,14,15,16] ks7 [((4,0),4)] ?_) (yn0 _) ?_
 ·simp[toS,hpZ,tgL];exact⟨⟨hf4 v,fun x hx=>ymn.1 (hf2 v) x hx,fun x hx=>ymn.1 (hf3 v) x hx⟩,hcs⟩
 intro k hk R hn hr hx;have e1:=i64s k;have hI2:=zv0 h (tgL U (L.take k)) v hI (z02 hU fun x hx=>hLm x (yn9 hx));by_cases hlt:k<L.length
 ·have hs:=z6i U L hlt;have hm:=hLm _ (ym7 hlt);obtain⟨t,ht⟩:∃ t:Nat,L[k].t=(t:Int):=⟨L[k].t.toNat,by omega⟩;have etT:tT L[k]=t:=by unfold tT;omega
  have htU:t<U.length:=by omega
  have gU:U.getD t false=U[t]:=by rw[ym8,yma htU];rfl
  rw[etT,gU]at hs;have hend:∀ st',Weak st' (toS A U (.fn f caps) L (hpZ size gl ((tgL U (L.take (k+1))).foldl s v) cc) (k+1))->R .normal st':=fun st' hh=>hn (k+1) st' hh (by omega) (by omega);rw[hs,yo1]at hend;generalize (tgL U (L.take k)).foldl s v=v1 at *
  simp[-zc7,g.rn,toS,hpZ,hlt];refine zae hlt ?_;simp[-zc7,ht,pth];refine zae htU ?_;cases hb:U[t]with
  | false =>
   rw[hb]at hend;simp only[yme,ymb,List.foldl_nil]at hend;simp[e1];refine hend _ (Weak.toF [3,4,14,15,16] ks7 [((4,0),4)] ?_);simp[toS,hpZ,pth];exact⟨⟨hf4 v1,fun x hx=>ymn.1 (hf2 v1) x hx,fun x hx=>ymn.1 (hf3 v1) x hx⟩,hcs⟩
  | true =>
   rw[hb]at hend;simp only[ym2,yqt,List.foldl_nil]at hend;simp[-zc7,ht];refine z9p h hI2 htU (by rw[gU,hb]) ?_ fun c'=>?_
   ·simp[zbk,St.site,look,hpZ]
   simp[e1];refine hend _ (Weak.toF [3,4,14,15,16] ks7 [((4,0),4)] ?_);simp[toS,hpZ,pth];exact⟨⟨hf4 _,fun x hx=>ymn.1 (hf2 _) x hx,fun x hx=>ymn.1 (hf3 _) x hx⟩,hcs⟩
 ·have:k=L.length:=by omega
  subst this;rw[yml];simp[g.rn,toS,hpZ];refine hx _ _ ?_;simp;refine⟨.inr rfl,_,Weak.refl _,[],rfl,rfl,?_⟩;simp[zbk,St.site,look]
end Go.Ab
namespace Go.Ab
theorem Ld.map{nxt nxt':Nat->Nat->List Nat}{sy:Nat}{beg beg':List Nat}{R:Nat->Nat->Prop}(hb:∀ n∈beg,∃ n'∈beg',R n n')(hs:∀ m m' l n,1<=l->l<=sy->R m m'->n∈nxt m l->∃ n'∈nxt' m' l,R n n')
  {w:List Int} {n:Nat} (h:Ld nxt sy beg w n):∃ n',Ld nxt' sy beg' w n'/\R n n':=by
 induction h with
 | nil h=>obtain⟨n',h1,h2⟩:=hb _ h;exact⟨n',.nil h1,h2⟩
 | snoc h h1 h2 h3 ih =>
  obtain⟨m',i1,i2⟩:=ih;obtain⟨n',j1,j2⟩:=hs _ _ _ _ h1 h2 i2 h3;exact⟨n',.snoc i1 h1 h2 j1,j2⟩
theorem z04{goal goal':Nat->Bool}{nxt nxt':Nat->Nat->List Nat}{sy size size':Nat}{beg beg':List Nat}(hn:∀ m l,∀ k∈nxt m l,k<size)(hbs:∀ m∈beg,m<size)(hn':∀ m l,∀ k∈nxt' m l,k<size')(hbs':∀ m∈beg',m<size')
  (R:Nat->Nat->Prop) (hg:∀ n n',R n n'->goal n=goal' n') (hb:∀ n∈beg,∃ n'∈beg',R n n') (hs:∀ m m' l n,R m m'->n∈nxt m l->∃ n'∈nxt' m' l,R n n')
  (hb':∀ n'∈beg',∃ n∈beg,R n n') (hs':∀ m m' l n',R m m'->n'∈nxt' m' l->∃ n∈nxt m l,R n n'):(sx goal nxt sy size beg).isSome=(sx goal' nxt' sy size' beg').isSome:=by
 rw[yoh,zwe hn hbs,zwe hn' hbs'];constructor
 ·rintro⟨w,m,h1,h2⟩;obtain⟨m',h3,h4⟩:=h1.map hb (fun m m' l n _ _=>hs m m' l n);exact⟨w,m',h3,by rw[<- hg _ _ h4];exact h2⟩
 ·rintro⟨w,m,h1,h2⟩;obtain⟨m',h3,h4⟩:=h1.map (R:=fun a b=>R b a) hb' (fun m m' l n _ _=>hs' m' m l n);exact⟨w,m',h3,by rw[hg _ _ h4];exact h2⟩
theorem Ld.beg_ne{nxt:Nat->Nat->List Nat}{sy:Nat}{beg:List Nat}{w:List Int}{m:Nat}(h:Ld nxt sy beg w m):∃ k,k∈beg:=by
 induction h with
 | nil h=>exact⟨_,h⟩
 | snoc _ _ _ _ ih=>exact ih
def nod(N a b:Nat)(d:Bool):Nat:=(a*N+b)*2+(if d=true\/a≠b then 1 else 0)
theorem z29{N a b:Nat}{d:Bool}(ha:a<N)(hb:b<N):nod N a b d<2*N*N:=by
 unfold nod;have:a*N+b+1<=N*N:=by have:=yn1 N (yrg ha);rw[yo2]at this;omega
 rw[ymq];split<;>omega
theorem ygm{N a b:Nat}{d:Bool}:nod N a b d / 2=a*N+b:=by unfold nod;split<;>omega
theorem zhv{N a b:Nat}{d:Bool}(hb:b<N):nod N a b d / 2 / N=a:=by rw[ygm,ymo,yp9 (by omega),yo0 hb,ymx]
theorem zhu{N a b:Nat}{d:Bool}(hb:b<N):nod N a b d / 2 % N=b:=by rw[ygm,ymo,ypa,ynf hb]
theorem zih{N a b:Nat}{d:Bool}:(nod N a b d % 2 == 1)=(d||decide (a≠b)):=by
 have:nod N a b d % 2=if d=true\/a≠b then 1 else 0:=by unfold nod;split<;>omega
 rw[this];by_cases h:a=b<;>cases d<;>simp[h]
section
variable (T:Nat->Nat->List Nat) (N:Nat)
def nx2(k l:Nat):List Nat:=(T (k / 2 / N) l).flatMap fun a=>(T (k / 2 % N) l).map fun b=>nod N a b (k % 2 == 1)
def gl2(E:Nat->Bool)(k:Nat):Bool:=k % 2 == 1&&E (k / 2 / N)&&E (k / 2 % N)
def bg2(B:Nat->Bool):List Nat:=(List.range N).flatMap fun a=>(List.range N).flatMap fun b=>if B a=true/\B b=true then[nod N a b false]else[]
def tw2(B E:Nat->Bool)(sy:Nat):Option (List Int):=sx (gl2 N E) (nx2 T N) sy (2*N*N) (bg2 N B)
def nx3(k l:Nat):List Nat:=(T (k / N / N) l).flatMap fun x=>(T (k / N % N) l).flatMap fun y=>(T (k % N) l).map fun z=>(x*N+y)*N+z
def th3(a b sy:Nat):Option (List Int):=sx (fun k=>decide (k=(a*N+b)*N+b)) (nx3 T N) sy (N*N*N) [(a*N+a)*N+b]
end
structure TOk2 (T:Nat->Nat->List Nat) (N:Nat) (U:Nat->Bool):Prop where
 t:∀ q l,∀ x∈T q l,x<N/\U x=true
theorem ze8{N:Nat}{B:Nat->Bool}{k:Nat}:k∈bg2 N B ↔ ∃ a b,a<N/\b<N/\B a=true/\B b=true/\k=nod N a b false:=by
 unfold bg2;simp only[ymt,yna];constructor
 ·rintro⟨a,ha,b,hb,h⟩;split at h
  ·rename_i hB;exact⟨a,b,ha,hb,hB.1,hB.2,ymj.1 h⟩
  ·cases h
 ·rintro⟨a,b,ha,hb,h1,h2,rfl⟩;exact⟨a,ha,b,hb,by rw[ym0 ⟨h1,h2⟩];exact ymj.2 rfl⟩
theorem zek{T:Nat->Nat->List Nat}{N k l m:Nat}:m∈nx2 T N k l ↔ ∃ a b,a∈T (k / 2 / N) l/\b∈T (k / 2 % N) l/\m=nod N a b (k % 2 == 1):=by
 unfold nx2;simp only[ymt,ym5];constructor
 ·rintro⟨a,ha,b,hb,rfl⟩;exact⟨a,b,ha,hb,rfl⟩
 ·rintro⟨a,b,ha,hb,rfl⟩;exact⟨a,ha,b,hb,rfl⟩
theorem zot{T:Nat->Nat->List Nat}{N:Nat}{U:Nat->Bool}(h:TOk2 T N U)(m l:Nat):∀ k∈nx2 T N m l,k<2*N*N:=by intro k hk;obtain⟨a,b,ha,hb,rfl⟩:=zek.1 hk;exact z29 (h.t _ _ _ ha).1 (h.t _ _ _ hb).1
theorem znt{N:Nat}{B:Nat->Bool}:∀ k∈bg2 N B,k<2*N*N:=by intro k hk;obtain⟨a,b,ha,hb,_,_,rfl⟩:=ze8.1 hk;exact z29 ha hb
theorem zjl{N x y z:Nat}(hx:x<N)(hy:y<N)(hz:z<N):(x*N+y)*N+z<N*N*N:=by
 have h1:x*N+y+1<=N*N:=by have:=yn1 N (yrg hx);rw[yo2]at this;omega
 have h2:=yn1 N h1;rw[yn7,Nat.one_mul]at h2;omega
theorem zj2{T:Nat->Nat->List Nat}{N k l m:Nat}:m∈nx3 T N k l ↔ ∃ x y z,x∈T (k / N / N) l/\y∈T (k / N % N) l/\z∈T (k % N) l/\m=(x*N+y)*N+z:=by
 unfold nx3;simp only[ymt,ym5];constructor
 ·rintro⟨x,hx,y,hy,z,hz,rfl⟩;exact⟨x,y,z,hx,hy,hz,rfl⟩
 ·rintro⟨x,y,z,hx,hy,hz,rfl⟩;exact⟨x,hx,y,hy,z,hz,rfl⟩
theorem z23{T:Nat->Nat->List Nat}{N:Nat}{U:Nat->Bool}(h:TOk2 T N U)(m l:Nat):∀ k∈nx3 T N m l,k<N*N*N:=by intro k hk;obtain⟨x,y,z,hx,hy,hz,rfl⟩:=zj2.1 hk;exact zjl (h.t _ _ _ hx).1 (h.t _ _ _ hy).1 (h.t _ _ _ hz).1
theorem zh1{N x y z:Nat}(hy:y<N)(hz:z<N):((x*N+y)*N+z) / N / N=x/\((x*N+y)*N+z) / N % N=y/\((x*N+y)*N+z) % N=z:=by
 have h1:((x*N+y)*N+z) / N=x*N+y:=by rw[ymo,yp9 (by omega),yo0 hz,ymx]
 refine⟨?_,?_,?_⟩
 ·rw[h1,ymo,yp9 (by omega),yo0 hy,ymx]
 ·rw[h1,ymo,ypa,ynf hy]
 ·rw[ymo,ypa,ynf hz]
structure Iso (T T':Nat->Nat->List Nat) (N N':Nat) (U U':Nat->Bool) (σ : Nat->Nat):Prop where
 ok:TOk2 T N U
 ok':TOk2 T' N' U'
 lt:∀ a,a<N->U a=true -> σ a<N'/\U' (σ a)=true
 inj:∀ a b,a<N->b<N->U a=true->U b=true -> σ a = σ b->a=b
 sur:∀ x,x<N'->U' x=true->∃ a,a<N/\U a=true /\ σ a=x
 tt:∀ a l,a<N->U a=true->T' (σ a) l=(T a l).map σ
def R2(N N':Nat)(U:Nat->Bool)(σ : Nat->Nat)(k k':Nat):Prop:=∃ a b d,a<N/\b<N/\U a=true/\U b=true/\k=nod N a b d/\k'=nod N' (σ a) (σ b) d
theorem z0n{T T':Nat->Nat->List Nat}{N N':Nat}{U U':Nat->Bool}{σ : Nat->Nat}(h:Iso T T' N N' U U' σ){B B' E E':Nat->Bool}(hB:∀ a,B a=true->U a=true)(hB':∀ a,B' a=true->U' a=true)
  (hb:∀ a,a<N->U a=true->B' (σ a)=B a) (he:∀ a,a<N->U a=true->E' (σ a)=E a) (sy:Nat):(tw2 T N B E sy).isSome=(tw2 T' N' B' E' sy).isSome:=by
 have hdd:∀ {a b:Nat} {d:Bool},a<N->b<N->U a=true->U b=true->(d||decide (σ a ≠ σ b))=(d||decide (a≠b)):=by
  intro a b d ha hb ua ub;by_cases e:a=b
  ·subst e;simp
  ·have : σ a ≠ σ b:=fun e2=>e (h.inj a b ha hb ua ub e2);simp[e,this]
 refine z04 (fun m l=>zot h.ok m l) znt (fun m l=>zot h.ok' m l) znt (R2 N N' U σ) ?_ ?_ ?_ ?_ ?_
 ·rintro n n' ⟨a,b,d,ha,hb2,ua,ub,rfl,rfl⟩;have hsb:=(h.lt b hb2 ub).1;unfold gl2;rw[zhv hb2,zhu hb2,zih,zhv hsb,zhu hsb,zih,he a ha ua,he b hb2 ub,hdd ha hb2 ua ub]
 ·intro n hn;obtain⟨a,b,ha,hb2,h1,h2,rfl⟩:=ze8.1 hn;have ua:=hB a h1;have ub:=hB b h2;exact⟨_,ze8.2 ⟨σ a,σ b,(h.lt a ha ua).1,(h.lt b hb2 ub).1,by rw[hb a ha ua];exact h1,by rw[hb b hb2 ub];exact h2,rfl⟩,a,b,false,ha,hb2,ua,ub,rfl,rfl⟩
 ·rintro m m' l n ⟨a,b,d,ha,hb2,ua,ub,rfl,rfl⟩ hn;have hsb:=(h.lt b hb2 ub).1;obtain⟨x,y,hx,hy,rfl⟩:=zek.1 hn;rw[zhv hb2]at hx;rw[zhu hb2]at hy;obtain⟨x1,x2⟩:=h.ok.t _ _ _ hx;obtain⟨y1,y2⟩:=h.ok.t _ _ _ hy;refine⟨nod N' (σ x) (σ y) (nod N a b d % 2 == 1),zek.2 ⟨σ x,σ y,?_,?_,?_⟩,x,y,_,x1,y1,x2,y2,rfl,rfl⟩
  ·rw[zhv hsb,h.tt a l ha ua];exact ym5.2 ⟨x,hx,rfl⟩
  ·rw[zhu hsb,h.tt b l hb2 ub];exact ym5.2 ⟨y,hy,rfl⟩
  ·rw[zih,zih,hdd ha hb2 ua ub]
 ·intro n hn;obtain⟨a',b',ha',hb',h1,h2,rfl⟩:=ze8.1 hn;obtain⟨a,ha,ua,rfl⟩:=h.sur a' ha' (hB' a' h1);obtain⟨b,hb2,ub,rfl⟩:=h.sur b' hb' (hB' b' h2);exact⟨_,ze8.2 ⟨a,b,ha,hb2,by rw[<- hb a ha ua];exact h1,by rw[<- hb b hb2 ub];exact h2,rfl⟩,a,b,false,ha,hb2,ua,ub,rfl,rfl⟩
 ·rintro m m' l n ⟨a,b,d,ha,hb2,ua,ub,rfl,rfl⟩ hn;have hsb:=(h.lt b hb2 ub).1;obtain⟨x',y',hx,hy,rfl⟩:=zek.1 hn;rw[zhv hsb,h.tt a l ha ua]at hx;rw[zhu hsb,h.tt b l hb2 ub]at hy;obtain⟨x,hx0,rfl⟩:=ym5.1 hx;obtain⟨y,hy0,rfl⟩:=ym5.1 hy;clear hx hy;have hx:=hx0;have hy:=hy0;obtain⟨x1,x2⟩:=h.ok.t _ _ _ hx;obtain⟨y1,y2⟩:=h.ok.t _ _ _ hy;refine⟨nod N x y (nod N a b d % 2 == 1),zek.2 ⟨x,y,by rw[zhv hb2];exact hx,by rw[zhu hb2];exact hy,rfl⟩,x,y,_,x1,y1,x2,y2,rfl,?_⟩;rw[zih,zih,hdd ha hb2 ua ub]
def R3(N N':Nat)(U:Nat->Bool)(σ : Nat->Nat)(k k':Nat):Prop:=∃ x y z,x<N/\y<N/\z<N/\U x=true/\U y=true/\U z=true/\k=(x*N+y)*N+z/\k'=(σ x*N' + σ y)*N' + σ z
theorem z00{T T':Nat->Nat->List Nat}{N N':Nat}{U U':Nat->Bool}{σ : Nat->Nat}(h:Iso T T' N N' U U' σ){a b:Nat}(ha:a<N)(hb:b<N)(ua:U a=true)(ub:U b=true)(sy:Nat) :
  (th3 T N a b sy).isSome=(th3 T' N' (σ a) (σ b) sy).isSome:=by
 refine z04 (fun m l=>z23 h.ok m l) ?_ (fun m l=>z23 h.ok' m l) ?_ (R3 N N' U σ) ?_ ?_ ?_ ?_ ?_
 ·intro m hm;rw[ymj]at hm;subst hm;exact zjl ha ha hb
 ·intro m hm;rw[ymj]at hm;subst hm;exact zjl (h.lt a ha ua).1 (h.lt a ha ua).1 (h.lt b hb ub).1
 ·rintro n n' ⟨x,y,z,hx,hy,hz,ux,uy,uz,rfl,rfl⟩;obtain⟨e1,e2,e3⟩:=zh1 (x:=x) hy hz;obtain⟨f1,f2,f3⟩:=zh1 (x:=a) hb hb;obtain⟨e4,e5,e6⟩:=zh1 (x := σ x) (h.lt y hy uy).1 (h.lt z hz uz).1;obtain⟨f4,f5,f6⟩:=zh1 (x := σ a) (h.lt b hb ub).1 (h.lt b hb ub).1;rw[yoh,decide_eq_true_iff,decide_eq_true_iff];constructor
  ·intro e;rw[e]at e1 e2 e3;rw[f1]at e1;rw[f2]at e2;rw[f3]at e3;subst e1;subst e2;rw[<- e3]
  ·intro e;rw[e]at e4 e5 e6;rw[f4]at e4;rw[f5]at e5;rw[f6]at e6;have:=h.inj _ _ ha hx ua ux e4;have:=h.inj _ _ hb hy ub uy e5;have:=h.inj _ _ hb hz ub uz e6
   subst_vars
   rfl
 ·intro n hn;rw[ymj]at hn;subst hn;exact⟨_,ymj.2 rfl,a,a,b,ha,ha,hb,ua,ua,ub,rfl,rfl⟩
 ·rintro m m' l n ⟨x,y,z,hx,hy,hz,ux,uy,uz,rfl,rfl⟩ hn;obtain⟨e1,e2,e3⟩:=zh1 (x:=x) hy hz;obtain⟨e4,e5,e6⟩:=zh1 (x := σ x) (h.lt y hy uy).1 (h.lt z hz uz).1;obtain⟨p,q,r,hp,hq,hr,rfl⟩:=zj2.1 hn;rw[e1]at hp;rw[e2]at hq;rw[e3]at hr;obtain⟨p1,p2⟩:=h.ok.t _ _ _ hp;obtain⟨q1,q2⟩:=h.ok.t _ _ _ hq;obtain⟨r1,r2⟩:=h.ok.t _ _ _ hr;refine⟨_,zj2.2 ⟨σ p,σ q,σ r,?_,?_,?_,rfl⟩,p,q,r,p1,q1,r1,p2,q2,r2,rfl,rfl⟩
  ·rw[e4,h.tt x l hx ux];exact ym5.2 ⟨p,hp,rfl⟩
  ·rw[e5,h.tt y l hy uy];exact ym5.2 ⟨q,hq,rfl⟩
  ·rw[e6,h.tt z l hz uz];exact ym5.2 ⟨r,hr,rfl⟩
 ·intro n hn;rw[ymj]at hn;subst hn;exact⟨_,ymj.2 rfl,a,a,b,ha,ha,hb,ua,ua,ub,rfl,rfl⟩
 ·rintro m m' l n ⟨x,y,z,hx,hy,hz,ux,uy,uz,rfl,rfl⟩ hn;obtain⟨e1,e2,e3⟩:=zh1 (x:=x) hy hz;obtain⟨e4,e5,e6⟩:=zh1 (x := σ x) (h.lt y hy uy).1 (h.lt z hz uz).1;obtain⟨p,q,r,hp,hq,hr,rfl⟩:=zj2.1 hn;rw[e4,h.tt x l hx ux]at hp;rw[e5,h.tt y l hy uy]at hq;rw[e6,h.tt z l hz uz]at hr;obtain⟨p,hp0,rfl⟩:=ym5.1 hp;obtain⟨q,hq0,rfl⟩:=ym5.1 hq;obtain⟨r,hr0,rfl⟩:=ym5.1 hr;clear hp hq hr;have hp:=hp0;have hq:=hq0;have hr:=hr0;obtain⟨p1,p2⟩:=h.ok.t _ _ _ hp;obtain⟨q1,q2⟩:=h.ok.t _ _ _ hq;obtain⟨r1,r2⟩:=h.ok.t _ _ _ hr;exact⟨_,zj2.2 ⟨p,q,r,by rw[e1];exact hp,by rw[e2];exact hq,by rw[e3];exact hr,rfl⟩,p,q,r,p1,q1,r1,p2,q2,r2,rfl,rfl⟩
def slf(q:Nat)(s:Nat):Bool:=decide (s=q)
def lpG(T:Nat->Nat->List Nat)(N:Nat)(U:Nat->Bool)(sy:Nat):List Nat->Option (Nat × List Int)
 | []=>none
 | q::r=>match tw2 T N (fun s=>U s&&slf q s) (slf q) sy with
  | some w=>some (q,w)
  | none=>lpG T N U sy r
def stI(T:Nat->Nat->List Nat)(N:Nat)(U:Nat->Bool)(sy a:Nat):List Nat->Option (Nat × List Int)
 | []=>none
 | b::r=>if a=b\/U a=false\/U b=false then stI T N U sy a r else match th3 T N a b sy with
  | some w=>some (b,w)
  | none=>stI T N U sy a r
def stO(T:Nat->Nat->List Nat)(N:Nat)(U:Nat->Bool)(sy:Nat):List Nat->Option (Nat × Nat × List Int)
 | []=>none
 | a::r=>match stI T N U sy a (List.range N)with
  | some (b,w)=>some (a,b,w)
  | none=>stO T N U sy r
def grw(T:Nat->Nat->List Nat)(N:Nat)(U B E:Nat->Bool)(sy:Nat)(g0 g1 g2 g3:Int):Int :=
 if (tw2 T N (fun s=>U s&&B s) E sy).isSome=false then g0
 else if (lpG T N U sy (List.range N)).isSome=true then g3
 else if (stO T N U sy (List.range N)).isSome=true then g2 else g1
theorem zuy{T:Nat->Nat->List Nat}{N:Nat}{U:Nat->Bool}{sy:Nat}:∀ l:List Nat,(lpG T N U sy l).isSome=true ↔ ∃ q∈l,(tw2 T N (fun s=>U s&&slf q s) (slf q) sy).isSome=true
 | []=>by simp[lpG]
 | q::r=>by
  have ih:=zuy (T:=T) (N:=N) (U:=U) (sy:=sy) r;simp only[lpG,ym3,exists_eq_or_imp];split
  ·rename_i w e;simp[e]
  ·rename_i e;simp[e,ih]
theorem z1f{T:Nat->Nat->List Nat}{N:Nat}{U:Nat->Bool}{sy a:Nat}:∀ l:List Nat,(stI T N U sy a l).isSome=true ↔ ∃ b∈l,a≠b/\U a=true/\U b=true/\(th3 T N a b sy).isSome=true
 | []=>by simp[stI]
 | q::r=>by
  have ih:=z1f (T:=T) (N:=N) (U:=U) (sy:=sy) (a:=a) r;simp only[stI,ym3,exists_eq_or_imp];split
  ·rename_i h;rw[ih];constructor
   ·exact .inr
   ·rintro(⟨h1,h2,h3,_⟩|h1)
    ·rcases h with h|h|h
     ·exact absurd h h1
     ·rw[h]at h2;cases h2
     ·rw[h]at h3;cases h3
    ·exact h1
  ·rename_i h;have h1:a≠q/\U a=true/\U q=true:=by
    refine⟨fun e=>h (.inl e),?_,?_⟩
    ·cases hu:U a with
     | true=>rfl
     | false=>exact absurd (.inr (.inl hu)) h
    ·cases hu:U q with
     | true=>rfl
     | false=>exact absurd (.inr (.inr hu)) h
   split
   ·rename_i w e;simp[e,h1]
   ·rename_i e;simp[e,ih]
theorem zt7{T:Nat->Nat->List Nat}{N:Nat}{U:Nat->Bool}{sy:Nat}:∀ l:List Nat,(stO T N U sy l).isSome=true ↔ ∃ a∈l,(stI T N U sy a (List.range N)).isSome=true
 | []=>by simp[stO]
 | q::r=>by
  have ih:=zt7 (T:=T) (N:=N) (U:=U) (sy:=sy) r;simp only[stO,ym3,exists_eq_or_imp];split
  ·rename_i b w e;simp[e]
  ·rename_i e;simp[e,ih]
theorem ydu{T T':Nat->Nat->List Nat}{N N':Nat}{U U':Nat->Bool}{σ : Nat->Nat}(h:Iso T T' N N' U U' σ){B B' E E':Nat->Bool}
  (hb:∀ a,a<N->U a=true->B' (σ a)=B a) (he:∀ a,a<N->U a=true->E' (σ a)=E a) (sy:Nat) (g0 g1 g2 g3:Int):grw T N U B E sy g0 g1 g2 g3=grw T' N' U' B' E' sy g0 g1 g2 g3:=by
 have e1:(tw2 T N (fun s=>U s&&B s) E sy).isSome=(tw2 T' N' (fun s=>U' s&&B' s) E' sy).isSome:=by
  refine z0n h (fun a ha=>?_) (fun a ha=>?_) (fun a ha ua=>?_) he sy
  ·simp only[ymd]at ha;exact ha.1
  ·simp only[ymd]at ha;exact ha.1
  ·rw[hb a ha ua,(h.lt a ha ua).2,ua]
 have e2:(lpG T N U sy (List.range N)).isSome=(lpG T' N' U' sy (List.range N')).isSome:=by
  have one:∀ q,q<N->U q=true->(tw2 T N (fun s=>U s&&slf q s) (slf q) sy).isSome=(tw2 T' N' (fun s=>U' s&&slf (σ q) s) (slf (σ q)) sy).isSome:=by
   intro q hq uq;have hs:∀ a,a<N->U a=true->slf (σ q) (σ a)=slf q a:=by
    intro a ha ua;unfold slf;rw[yoh,decide_eq_true_iff,decide_eq_true_iff];constructor
    ·exact h.inj _ _ ha hq ua uq
    ·rintro rfl;rfl
   refine z0n h (fun a ha=>?_) (fun a ha=>?_) (fun a ha ua=>?_) hs sy
   ·simp only[ymd]at ha;exact ha.1
   ·simp only[ymd]at ha;exact ha.1
   ·rw[hs a ha ua,(h.lt a ha ua).2,ua]
  have non:∀ (T:Nat->Nat->List Nat) (N:Nat) (U:Nat->Bool) q,TOk2 T N U->(tw2 T N (fun s=>U s&&slf q s) (slf q) sy).isSome=true->U q=true:=by
   intro T N U q hok hs;rw[tw2,zwe (fun m l=>zot hok m l) znt]at hs;obtain⟨w,m,h1,_⟩:=hs;have:∃ k,k∈bg2 N (fun s=>U s&&slf q s):=by exact Ld.beg_ne h1
   obtain⟨k,hk⟩:=this;obtain⟨a,b,_,_,h3,_⟩:=ze8.1 hk;simp only[ymd,slf,decide_eq_true_iff]at h3;rw[<- h3.2];exact h3.1
  rw[yoh,zuy,zuy];constructor
  ·rintro⟨q,hq,hs⟩;have uq:=non T N U q h.ok hs;have hq:=yna.1 hq;exact⟨σ q,yna.2 (h.lt q hq uq).1,by rw[<- one q hq uq];exact hs⟩
  ·rintro⟨x,hx,hs⟩;obtain⟨q,hq,uq,rfl⟩:=h.sur x (yna.1 hx) (non T' N' U' x h.ok' hs);exact⟨q,yna.2 hq,by rw[one q hq uq];exact hs⟩
 have e3:(stO T N U sy (List.range N)).isSome=(stO T' N' U' sy (List.range N')).isSome:=by
  rw[yoh,zt7,zt7];simp only[z1f,yna];constructor
  ·rintro⟨a,ha,b,hb2,h1,ua,ub,hs⟩;refine⟨σ a,(h.lt a ha ua).1,σ b,(h.lt b hb2 ub).1,fun e=>h1 (h.inj a b ha hb2 ua ub e),(h.lt a ha ua).2,(h.lt b hb2 ub).2,?_⟩;rw[<- z00 h ha hb2 ua ub];exact hs
  ·rintro⟨x,hx,y,hy,h1,ux,uy,hs⟩;obtain⟨a,ha,ua,rfl⟩:=h.sur x hx ux;obtain⟨b,hb2,ub,rfl⟩:=h.sur y hy uy;refine⟨a,ha,b,hb2,fun e=>h1 (by rw[e]),ua,ub,?_⟩;rw[z00 h ha hb2 ua ub];exact hs
 unfold grw;rw[e1,e2,e3]
theorem ybf{T:Nat->Nat->List Nat}{N:Nat}{U:Nat->Bool}(h:TOk2 T N U){B E:Nat->Bool}(hB:∀ a b,a<N->b<N->B a=true->B b=true->a=b)(hT:∀ q l,∀ a∈T q l,∀ b∈T q l,a=b)(sy:Nat):(tw2 T N B E sy).isSome=false:=by
 rw[<- Bool.not_eq_true];intro hs;rw[tw2,zwe (fun m l=>zot h m l) znt]at hs;obtain⟨w,m,h1,h2⟩:=hs;have key:∃ a,a<N/\m=nod N a a false:=by
  clear h2
  induction h1 with
  | nil h =>
   obtain⟨a,b,ha,hb,h1,h2,rfl⟩:=ze8.1 h;have:=hB a b ha hb h1 h2;subst this;exact⟨a,ha,rfl⟩
  | snoc h1 _ _ h3 ih =>
   obtain⟨a,ha,rfl⟩:=ih;obtain⟨x,y,hx,hy,rfl⟩:=zek.1 h3;rw[zhv ha]at hx;rw[zhu ha]at hy;have:=hT _ _ _ hx _ hy;subst this;refine⟨x,(h.t _ _ _ hx).1,?_⟩;rw[zih];simp
 obtain⟨a,ha,rfl⟩:=key;unfold gl2 at h2;rw[zih]at h2;simp at h2
end Go.Ab
namespace Go.Ab
open Enc (enc)
attribute [local simp] zaj Opd.slots
theorem Weak.kill(st:St)(s g:Nat):Weak st (st.kill s g):=fun _ Z _ _ h =>
 ⟨Z,⟨fun t=>(h.slots t).mono (ZLe.kill Z st s g),h.defers,h.size,h.heap.kill s g⟩,PinLe.of_zle (ZLe.kill Z st s g)⟩
theorem z28{N a b:Nat}{d:Bool}(hN:N<=64)(ha:a<N)(hb:b<N):Sp P F.bw [.int .i64 a,.int .i64 b,.bool d,.ref (.int .i64 N)] (.pure (.int .i64 (nod N a b d:Nat))):=by
 have h1:a*N+b+1<=N*N:=by have:=yn1 N (yrg ha);rw[yo2]at this;omega
 have h2:N*N<=64*64:=ymf hN hN;have hX:((a:Int)*N)=((a*N:Nat):Int):=by simp
 have e1:IntKind.i64.wrap ((a:Int)*N)=(a:Int)*N:=i64w (by omega) (by omega);have e2:IntKind.i64.wrap ((a:Int)*N+b)=(a:Int)*N+b:=i64w (by omega) (by omega);have e3:IntKind.i64.wrap (((a:Int)*N+b)*2)=((a:Int)*N+b)*2:=i64w (by omega) (by omega);have e4:IntKind.i64.wrap (((a:Int)*N+b)*2+1)=((a:Int)*N+b)*2+1:=i64w (by omega) (by omega);have en:((nod N a b d:Nat):Int)=((a:Int)*N+b)*2+(if d=true\/a≠b then 1 else 0):=by unfold nod;rw[hX];split<;>simp
 rw[en];refine Sp.of_vmW c.bw (by simp) (Weak.openRef (t:=3) rfl rfl) ?_;cases d with
 | true =>
  simp[g.bw,e1,e2,e3,e4]
 | false =>
  by_cases hab:a=b
  ·subst hab;simp[g.bw,e1,e2,e3,e4]
  ·have:¬ (a:Int)=b:=by omega
   simp[g.bw,e1,e2,e3,e4,hab,this]
theorem zx5{N:Nat}(hN:N<=64){en:PV}{E:Nat->Bool}(he:∀ q,q<N->FnSp en [.int .i64 (q:Nat)] (.bool (E q))){k:Nat}(hk:k<2*N*N):FnSp (.fn F.a8 [.ref en,.ref (.int .i64 N)]) [.int .i64 (k:Nat)] (.bool (gl2 N E k)):=by
 have h0:0<N:=by
  rcases ynx N with h|h
  ·subst h;simp at hk
  ·exact h
 have ha:k / 2 / N<N:=by rw[yof];refine Nat.div_lt_of_lt_mul ?_;rw[ymq];rw[ymq]at hk;exact hk
 have hb:k / 2 % N<N:=ynn _ h0;have h1:=he _ ha;have h2:=he _ hb;have hk2:k<=8192:=by have:2*N*N<=2*64*64:=ymf (ynu 2 hN) hN;omega
 show Sp P F.a8 [.int .i64 (k:Nat),.ref en,.ref (.int .i64 N)] (.pure (.bool (gl2 N E k)));have hE:gl2 N E k=(k % 2 == 1&&E (k / 2 / N)&&E (k / 2 % N)):=rfl;rw[hE];generalize E (k / 2 / N)=x at *
 generalize E (k / 2 % N)=y at *
 have t1:(k:Int).tmod 2=((k % 2:Nat):Int):=by simp[Int.tmod_eq_emod]
 have e1:IntKind.i64.wrap ((k:Int) / 2)=((k / 2:Nat):Int):=by rw[i64w (by omega) (by omega)];simp
 have q:∀ A:Nat,A<N->IntKind.i64.wrap (A:Int)=(A:Int):=fun A h=>i64w (by omega) (by omega);have e2:IntKind.i64.wrap (((k / 2:Nat):Int) / (N:Int))=((k / 2 / N:Nat):Int):=by rw[<- Int.natCast_ediv];exact q _ ha
 have e3:((k / 2:Nat):Int).tmod N=((k / 2 % N:Nat):Int):=by rw[yq5 (by omega),<- Int.natCast_emod]
 generalize k / 2 / N=A at *
 generalize k / 2 % N=B at *
 generalize k / 2=K2 at *
 refine Sp.of_vmW c.a8 (by simp) ((Weak.openRef (t:=1) rfl rfl).trans (Weak.openRef (t:=2) rfl rfl)) ?_;have hN0:¬ N=0:=by omega
 rcases Nat.mod_two_eq_zero_or_one k with hm|hm
 ·rw[hm]at t1 ⊢;simp at t1;cases en with
  | fn f caps=>simp[g.a8,t1]
  | bm f v=>simp[g.a8,t1]
  | _=>exact h1.elim
 ·rw[hm]at t1 ⊢;simp at t1;cases en with
  | fn f caps =>
   simp[g.a8,t1,e1,e2,hN0];refine zaa (args:=.int .i64 A::caps) h1 (zux _ (.int .i64 A::caps)) ?_;cases x with
   | false=>simp
   | true =>
    simp[e1,e3,hN0];refine zaa (args:=.int .i64 B::caps) h2 (zux _ (.int .i64 B::caps)) ?_;simp
  | bm f v =>
   simp[g.a8,t1,e1,e2,hN0];refine zaa (args:=[v,.int .i64 A]) h1 (zux _ [v,.int .i64 A]) ?_;cases x with
   | false=>simp
   | true =>
    simp[e1,e3,hN0];refine zaa (args:=[v,.int .i64 B]) h2 (zux _ [v,.int .i64 B]) ?_;simp
  | _=>exact h1.elim
end Go.Ab
