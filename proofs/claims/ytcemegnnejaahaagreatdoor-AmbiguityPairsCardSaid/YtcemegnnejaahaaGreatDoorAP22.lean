/- Lemmas for the law AmbiguityOfDeterministic, part 22. No conditions. -/
import Derived.Test.YtcemegnnejaahaaGreatDoorAP21
set_option maxRecDepth 100000
set_option maxHeartbeats 4000000
set_option linter.all false
namespace Go.Ab
open Enc (enc)
attribute [local simp] zaj Opd.slots
theorem z62(p q:List GMono)(hp:psm p 1048576)(hl:p.length<=1073741824):Sp P F.l9 [.sl (ens p),.sl (ens q)] (.pure (.bool (decide (p=q)))):=by
 refine Sp.vz c.l9 fun _=>?_;simp[g.l9];refine⟨fun h=>?_,fun h=>fun he=>h (by rw[he])⟩;have hlen:p.length=q.length:=by omega
 refine zag (S:=fun k:Nat=>mkSt [(0,.p (.sl (ens p))),(1,.p (.sl (ens q))),(5,.p (.int .i64 k))] []) (I:=fun k=>k<=p.length/\p.take k=q.take k) (m:=fun k=>p.length - k) 0
  (Weak.to [0,1,5] [] (by simp)) ⟨by omega,by simp⟩ ?_
 rintro k ⟨h1,h2⟩ R hn hr hx;have e1:=i64s k;simp[g.t7,mkSt];refine⟨fun hk=>?_,fun hk=>hx _ _ ?_⟩
 ·have hk2:k<q.length:=by omega
  have bad:p[k]≠q[k]->p≠q:=fun h h'=>by subst h';exact h rfl
  refine zae hk ?_;refine zae hk2 ?_;refine⟨fun h3=>hr _ ?_,fun h3 h4 h5=>?_⟩
  ·have:p≠q:=bad fun h=>by rw[h]at h3;simp at h3
   simp[this]
  refine zae hk ?_;refine zae hk2 ?_;refine zaa (zcl p[k].coef q[k].coef ((hp _ (ym7 hk)).mono (by omega))) rfl ?_;by_cases h6:p[k].coef=q[k].coef
  ·simp[h6,e1];have h7:p[k]=q[k]:=by
    have:p[k].e=q[k].e:=by generalize p[k].e=x at *;generalize q[k].e=y at *;cases x;cases y;simp at h3 h4 h5;simp[h3,h4,h5]
    generalize p[k]=x at *;generalize q[k]=y at *;cases x;cases y;simp at this h6;simp[this,h6]
   exact hn (k+1) _ (Weak.to [0,1,5] [] (by simp)) ⟨by omega,by rw[ymg hk,ymg hk2,h2,h7]⟩ (by omega)
  ·have h8:p≠q:=bad fun h=>h6 (by rw[h]);simp[h6];exact hr _ (by simp[h8])
 ·have h3:p=q:=by rw[<- List.take_length (l:=p),<- List.take_length (l:=q),<- hlen,show p.length=k by omega];exact h2
  simp[h3]
inductive GW where
 | mk (q:GRat) (cost:Int) (inf:Bool) (set:UInt64) (poly:List GMono) (parts:List GW)
namespace GW
def q:GW->GRat|mk q _ _ _ _ _=>q
def cost:GW->Int|mk _ c _ _ _ _=>c
def inf:GW->Bool|mk _ _ i _ _ _=>i
def set:GW->UInt64|mk _ _ _ s _ _=>s
def poly:GW->List GMono|mk _ _ _ _ p _=>p
def parts:GW->List GW|mk _ _ _ _ _ ps=>ps
mutual
def en:GW->PV
 | mk q c i s p ps=>.agg [.bool q.neg,.sl (ens q.num),.sl (ens q.den),.int .i64 c,.bool i,.int .u64 s.toNat,.sl (ens p),.sl (ensW ps)]
def ensW:List GW->List PV
 | []=>[]
 | w::ps=>en w::ensW ps
end
end GW
instance:Enc GW:=⟨GW.en,8,by decide,fun w=>by cases w;rfl⟩
theorem yd1(ps:List GW):GW.ensW ps=ens ps:=by
 induction ps with
 | nil=>simp[-zas,GW.ensW,ens]
 | cons w ps ih=>simp[-zas,GW.ensW,ens,ih];rfl
@[simp] theorem yl8(w:GW):enc w=.agg [.bool w.q.neg,.sl (ens w.q.num),.sl (ens w.q.den),.int .i64 w.cost,.bool w.inf,.int .u64 w.set.toNat,.sl (ens w.poly),.sl (ens w.parts)]:=by cases w;show GW.en _=_;simp[GW.en,yd1];simp[GW.q,GW.cost,GW.inf,GW.set,GW.poly,GW.parts]
@[simp] theorem yky:Enc.sz GW=8:=rfl
theorem GW.ext{v w:GW}(h1:v.q=w.q)(h2:v.cost=w.cost)(h3:v.inf=w.inf)(h4:v.set=w.set)(h5:v.poly=w.poly)(h6:v.parts=w.parts):v=w:=by cases v;cases w;simp[GW.q,GW.cost,GW.inf,GW.set,GW.poly,GW.parts]at *;simp[*]
noncomputable instance:DecidableEq GW:=fun _ _=>Classical.propDecidable _
structure GRing where
 kind:Int
 parts:List Int
 deriving DecidableEq
instance:Enc GRing:=⟨fun r=>.agg [.int .i64 r.kind,.sl (ens r.parts)],2,by decide,fun _=>rfl⟩
@[simp] theorem yiq(r:GRing):enc r=.agg [.int .i64 r.kind,.sl (ens r.parts)]:=rfl
@[simp] theorem yeu:Enc.sz GRing=2:=rfl
def GRing.ok(r:GRing):Bool:=if r.kind=6 then decide (2<=r.parts.length/\r.parts.length<=3/\∀ k∈r.parts,1<=k/\k<=5)else decide (1<=r.kind/\r.kind<=5/\r.parts=[])
theorem zch(r:GRing):Sp P F.cj [enc r] (.pure (.bool r.ok)):=by
 refine Sp.vz c.cj fun _=>?_;simp[g.cj];refine⟨fun h6=>⟨fun h=>?_,fun h=>⟨fun h2=>?_,fun h2=>?_⟩⟩,fun h6=>⟨fun h=>⟨fun h2=>?_,fun h2=>?_⟩,fun h=>?_⟩⟩
 ·simp[GRing.ok,h6];intro h';omega
 ·simp[GRing.ok,h6];intro h' h'';omega
 rotate_left
 ·simp[GRing.ok,h6,h,h2]
 ·simp[GRing.ok,h6];intro h';omega
 ·simp[GRing.ok,h6];intro h';omega
 refine zag (S:=fun k:Nat=>mkSt [(1,.ptr 1 0 0 0),(3,.p (.int .i64 k))] [(1,⟨2,[.p (enc r)]⟩)]) (I:=fun k=>k<=r.parts.length/\∀ i,(h:i<r.parts.length)->i<k->1<=r.parts[i]/\r.parts[i]<=5) (m:=fun k=>r.parts.length - k) 0
  (Weak.to [1,3] [((1,0),1)] (by simp)) ⟨by omega,fun i h h0=>by omega⟩ ?_
 rintro k ⟨h3,h4⟩ R hn hr hx;have e1:=i64s k;simp[g.sk,mkSt];refine⟨fun hk=>?_,fun hk=>hx _ _ ?_⟩
 ·have bad:¬ (1<=r.parts[k]/\r.parts[k]<=5)->r.ok=false:=fun hb=>by simp only[GRing.ok,ym0 h6,decide_eq_false_iff_not];exact fun h'=>hb (h'.2.2 _ (ym7 hk))
  refine zae hk ?_;refine⟨fun h5=>hr _ ?_,fun h5=>?_⟩
  ·simp[bad (by omega)]
  refine zae hk ?_;simp[e1];refine⟨fun h7=>hr _ ?_,fun h7=>hn (k+1) _ (Weak.to [1,3] [((1,0),1)] (by simp)) ⟨by omega,fun i h hi=>?_⟩ (by omega)⟩
  ·simp[bad (by omega)]
  ·by_cases hik:i<k
   ·exact h4 i h hik
   ·have:i=k:=by omega
    subst this;omega
 ·have:r.ok=true:=by simp only[GRing.ok,ym0 h6,decide_eq_true_eq];refine⟨by omega,by omega,fun x hx=>?_⟩;obtain⟨i,hi,rfl⟩:=List.getElem_of_mem hx;exact h4 i hi (by omega)
  simp[this]
inductive GW.sm (n:Nat):GW->Prop
 | mk {q:GRat} {c:Int} {i:Bool} {s:UInt64} {p:List GMono} {ps:List GW}:q.sm n->psm p n->p.length<=n->ps.length<=n->(∀ w∈ps,GW.sm n w)->GW.sm n (.mk q c i s p ps)
theorem GW.sm.q{n:Nat}{w:GW}(h:w.sm n):w.q.sm n:=by cases h;assumption
theorem GW.sm.poly{n:Nat}{w:GW}(h:w.sm n):psm w.poly n:=by cases h;assumption
theorem GW.sm.len{n:Nat}{w:GW}(h:w.sm n):w.poly.length<=n:=by cases h;assumption
theorem GW.sm.plen{n:Nat}{w:GW}(h:w.sm n):w.parts.length<=n:=by cases h;assumption
theorem GW.sm.parts{n:Nat}{w:GW}(h:w.sm n):∀ x∈w.parts,x.sm n:=by cases h;assumption
theorem GW.sm.ind{n:Nat}{M:GW->Prop}(h:∀ v,v.sm n->(∀ w∈v.parts,M w)->M v):∀ v,v.sm n->M v:=by
 intro v hv
 induction hv with|@mk q c i s p ps hq hp hpl hps hw ih=>exact h _ (.mk hq hp hpl hps hw) ih
theorem zs9(v:GW)(hv:v.sm 1048576):∀ w:GW,Sp P F.ep [enc v,enc w] (.pure (.bool (decide (v=w)))):=by
 revert v;refine GW.sm.ind fun v hv ih w=>?_;refine Sp.vz c.ep fun hok=>?_;simp[g.ep];refine zaa (zcl v.q w.q (hv.q.mono (by omega))) rfl ?_;simp;refine⟨fun h1=>⟨fun h2=>⟨fun h3=>⟨fun h4=>?_,fun h4 h=>h4 (by rw[h])⟩,fun h3 h=>h3 (by rw[h])⟩,fun h2 h=>h2 (by rw[h])⟩,fun h1 h=>h1 (by rw[h])⟩;have h4:v.set=w.set:=UInt64.toNat_inj.1 (by omega);refine zaa (z62 v.poly w.poly hv.poly (by have:=hv.len;omega)) rfl ?_;simp;refine⟨fun h5=>⟨fun h6=>?_,fun h6 h=>h6 (by rw[h])⟩,fun h5 h=>h5 (by rw[h])⟩;have hlen:v.parts.length=w.parts.length:=by omega
 have hmax:=hv.plen
 refine zag (S:=fun k:Nat=>mkSt [(2,.ptr 1 0 0 0),(3,.ptr 2 0 0 0),(5,.p (.int .i64 k))] [(1,⟨8,[.p (enc v)]⟩),(2,⟨8,[.p (enc w)]⟩)]) (I:=fun k=>k<=v.parts.length/\v.parts.take k=w.parts.take k) (m:=fun k=>v.parts.length - k) 0
  (Weak.to [2,3,5] [((2,0),1),((3,0),2)] (by simp)) ⟨by omega,by simp⟩ ?_
 rintro k ⟨h7,h8⟩ R hn hr hx;have e1:=i64s k;simp[g.s9,mkSt];refine⟨fun hk=>?_,fun hk=>hx _ _ ?_⟩
 ·have hk2:k<w.parts.length:=by omega
  refine zae hk ?_;refine zae hk2 ?_;refine zaa (ih _ (ym7 hk) w.parts[k]) ?_ ?_
  ·simp
  simp[e1];refine⟨fun h9=>?_,fun h9=>?_⟩
  ·exact hn (k+1) _ (Weak.to [2,3,5] [((1,0),1),((2,0),2)] (by simp)) ⟨by omega,by rw[ymg hk,ymg hk2,h8,h9]⟩ (by omega)
  ·refine hr _ ?_;have:v≠w:=fun h=>h9 (by subst h;rfl);simp[this]
 ·have h9:v=w:=by refine GW.ext h1 h2 h3 h4 h5 ?_;rw[<- List.take_length (l:=v.parts),<- List.take_length (l:=w.parts),<- hlen,show v.parts.length=k by omega];exact h8
  simp[h9]
theorem zqc(r:GRing)(i:Nat)(h:i<r.parts.length):Sp P F.ej [enc r,.int .i64 i] (.pure (enc (⟨r.parts[i],[]⟩:GRing))):=by refine Sp.vz c.ej fun _=>?_;simp[g.ej];refine zae h ?_;simp
end Go.Ab
namespace Go.Ab
section
variable {α : Type} (key : α -> List Int) (up : α -> α -> α) (nw : α -> α)
def mst(out:List α)(y : α):List α :=
 match out with
 | []=>[nw y]
 | [z]=>if key z=key y then[up z y]else[z,nw y]
 | z::r=>z::mst r y
def mrg(l:List α):List α := l.foldl (mst key up nw) []
def insR(s:List α)(x : α):List α :=
 match s with
 | []=>[x]
 | z::r=>if key x<key z then x::z::r else z::insR r x
def insF(out:List α)(x : α):List α :=
 match out with
 | []=>[nw x]
 | z::r=>if key z<key x then z::insF r x else if key z=key x then up z x::r else nw x::z::r
def srt(l:List α):List α := l.foldl (insR key) []
def nfm(l:List α):List α := l.foldl (insF key up nw) []
variable {key up nw} (hup:∀ a b,key (up a b)=key a) (hnw:∀ a,key (nw a)=key a)
theorem zqr(a b:List Int):a<b\/a=b\/b<a:=by
 by_cases h:a<b
 ·exact .inl h
 ·by_cases h2:b<a
  ·exact .inr (.inr h2)
  ·exact .inr (.inl (List.le_antisymm (List.not_lt.1 h2) (List.not_lt.1 h)))
theorem z34{a b c:List Int}(h:¬ b<a)(k:b<c):a<c:=by
 rcases zqr a b with h1|h1|h1
 ·exact List.lt_trans h1 k
 ·rw[h1];exact k
 ·exact absurd h1 h
theorem zm3{a b c:List Int}(h:a<b)(k:¬ c<b):a<c:=by
 rcases zqr b c with h1|h1|h1
 ·exact List.lt_trans h h1
 ·rw[<- h1];exact h
 ·exact absurd h1 k
theorem ygo(out:List α)(y : α):mst key up nw out y≠[]:=by
 match out with
 | []=>simp[mst]
 | [z]=>simp only[mst];split<;>simp
 | z::w::r=>simp[mst]
theorem zmo(z : α){r:List α}(y : α)(h:r≠[]):mst key up nw (z::r) y=z::mst key up nw r y:=by
 match r with
 | []=>exact absurd rfl h
 | w::r=>rfl
theorem zqg(o:List α){r:List α}(y : α)(h:r≠[]):mst key up nw (o++r) y=o++mst key up nw r y:=by
 induction o with
 | nil=>rfl
 | cons z o ih=>rw[yon,zmo z y (by simp[h]),ih];rfl
theorem zyb(o:List α):∀ (l:List α) {r:List α},r≠[]->l.foldl (mst key up nw) (o++r)=o++l.foldl (mst key up nw) r
 | [],r,_=>rfl
 | y::l,r,h=>by simp only[yqt];rw[zqg o y h];exact zyb o l (ygo r y)
include hup hnw in
theorem zqf(out:List α)(y : α):∃ o z,mst key up nw out y=o++[z]/\key z=key y:=by
 match out with
 | []=>exact⟨[],nw y,rfl,hnw y⟩
 | [z] =>
  simp only[mst];split
  ·rename_i h;exact⟨[],up z y,rfl,by rw[hup,h]⟩
  ·exact⟨[z],nw y,rfl,hnw y⟩
 | z::w::r =>
  obtain⟨o,u,h1,h2⟩:=zqf (w::r) y;exact⟨z::o,u,by rw[zmo z y (by simp),h1];rfl,h2⟩
theorem zqe{o:List α}{z y : α}(h:key z≠key y):mst key up nw (o++[z]) y=o++[z,nw y]:=by rw[zqg o y (by simp)];simp[mst,h]
theorem zuv{o:List α}{z y : α}(h:key z=key y):mst key up nw (o++[z]) y=o++[up z y]:=by rw[zqg o y (by simp)];simp[mst,h]
theorem zya{o:List α}{z : α}{B:List α}(h:∀ b∈B,key z≠key b):B.foldl (mst key up nw) (o++[z])=o++[z]++mrg key up nw B:=by
 cases B with
 | nil=>simp[mrg]
 | cons b B =>
  simp only[yqt,mrg];rw[zqe (h b (by simp))];have:o++[z,nw b]=(o++[z])++[nw b]:=by simp
  rw[this,zyb (o++[z]) B (by simp)];rfl
def Srt(key : α -> List Int)(l:List α):Prop:=l.Pairwise fun a b=>¬ key b<key a
def SSrt(key : α -> List Int)(l:List α):Prop:=l.Pairwise fun a b=>key a<key b
theorem zxe(l:List α)(y : α):mrg key up nw (l++[y])=mst key up nw (mrg key up nw l) y:=by simp[mrg,yo1]
include hup hnw in
theorem zhp:∀ (n:Nat) (l:List α),l.length=n->Srt key l->SSrt key (mrg key up nw l)/\(∀ z∈mrg key up nw l,∃ y∈l,key z=key y)/\(l=[]\/∃ o z o' y,mrg key up nw l=o++[z]/\l=o'++[y]/\key z=key y)
 | 0,l,hl,_=>by
  have:l=[]:=ypj hl;subst this;exact⟨by simp[mrg,SSrt],by simp[mrg],.inl rfl⟩
 | n+1,l,hl,hs=>by
  obtain⟨l',y,rfl⟩:∃ l' y,l=l'++[y]:=⟨l.dropLast,l.getLast (by intro h;simp[h]at hl),(List.dropLast_concat_getLast _).symm⟩;have hl':l'.length=n:=by simpa using hl
  have hs':Srt key l':=(ynz.1 hs).1;have hle:∀ a∈l',¬ key y<key a:=fun a ha=>(ynz.1 hs).2.2 a ha y (by simp);obtain⟨i1,i2,i3⟩:=zhp n l' hl' hs';rw[zxe];obtain⟨o,u,e1,e2⟩:=zqf hup hnw (mrg key up nw l') y;refine⟨?_,?_,.inr ⟨o,u,l',y,e1,rfl,e2⟩⟩
  ·rcases i3 with rfl|⟨o1,z,o',y',f1,f2,f3⟩
   ·simp[mrg,mst,SSrt]
   ·rw[f1]at i1 ⊢;have g:=ynz.1 i1;by_cases hk:key z=key y
    ·rw[zuv hk];refine ynz.2 ⟨g.1,by simp,fun a ha b hb=>?_⟩;simp only[ymj]at hb;subst hb;rw[hup];exact g.2.2 a ha z (by simp)
    ·rw[zqe hk];have hzy:key z<key y:=by
      rcases zqr (key z) (key y)with h|h|h
      ·exact h
      ·exact absurd h hk
      ·rw[f3]at h;exact absurd h (hle y' (by rw[f2];simp))
     refine ynz.2 ⟨g.1,by simp[hnw,hzy],fun a ha b hb=>?_⟩;have haz:=g.2.2 a ha z (by simp);simp only[ym3,ynd,or_false]at hb;rcases hb with rfl|rfl
     ·exact haz
     ·rw[hnw];exact List.lt_trans haz hzy
  ·intro z hz;rcases i3 with rfl|⟨o1,z1,o',y',f1,f2,f3⟩
   ·simp[mrg,mst]at hz;subst hz;exact⟨y,by simp,hnw y⟩
   ·rw[f1]at hz;by_cases hk:key z1=key y
    ·rw[zuv hk]at hz;rcases ymc.1 hz with h|h
     ·obtain⟨q,q1,q2⟩:=i2 z (by rw[f1];simp[h]);exact⟨q,by simp[q1],q2⟩
     ·simp at h;subst h;exact⟨y,by simp,by rw[hup,hk]⟩
    ·rw[zqe hk]at hz;simp only[ymc,ym3,ynd,or_false]at hz;rcases hz with h|rfl|rfl
     ·obtain⟨q,q1,q2⟩:=i2 z (by rw[f1];simp[h]);exact⟨q,by simp[q1],q2⟩
     ·obtain⟨q,q1,q2⟩:=i2 z (by rw[f1];simp);exact⟨q,by simp[q1],q2⟩
     ·exact⟨y,by simp,hnw y⟩
include hnw in
theorem zqw{x : α}{B:List α}(hB:∀ b∈B,key x<key b):∀ (A:List α),SSrt key A->(∀ a∈A,¬ key x<key a)->insF key up nw (A++B) x=mst key up nw A x++B
 | [],_,_=>by
  cases B with
  | nil=>rfl
  | cons b B =>
   have h:=hB b (by simp);have h1:¬ key b<key x:=List.lt_asymm h;have h2:key b≠key x:=fun e=>by rw[e]at h;exact yo7 _ h
   simp[insF,mst,h1,h2]
 | [z],hs,hle=>by
  rcases zqr (key z) (key x)with h|h|h
  ·have hne:key z≠key x:=fun e=>by rw[e]at h;exact yo7 _ h
   have:=zqw hB [] (by simp[SSrt]) (by simp);simp only[yo9,mst]at this;simp[insF,mst,h,hne,this]
  ·have h2:¬ key x<key x:=yo7 _;simp[insF,mst,h,h2]
  ·exact absurd h (hle z (by simp))
 | z::w::r,hs,hle=>by have hs2:=ymv.1 hs;have hzx:key z<key x:=zm3 (hs2.1 w (by simp)) (hle w (by simp));have ih:=zqw hB (w::r) hs2.2 (fun a ha=>hle a (by simp[ha]));rw[zmo z x (by simp)];simp only[yon,insF,hzx,ym2]at ih ⊢;rw[<- ih]
theorem zj8(x : α):∀ (s:List α),Srt key s->∃ A B,s=A++B/\insR key s x=A++x::B/\(∀ a∈A,¬ key x<key a)/\(∀ b∈B,key x<key b)
 | [],_=>⟨[],[],rfl,rfl,by simp,by simp⟩
 | z::r,hs=>by
  have hs2:=ymv.1 hs;by_cases h:key x<key z
  ·refine⟨[],z::r,rfl,by simp[insR,h],by simp,fun b hb=>?_⟩;rcases ym3.1 hb with rfl|hb
   ·exact h
   ·exact zm3 h (hs2.1 b hb)
  ·obtain⟨A,B,h1,h2,h3,h4⟩:=zj8 x r hs2.2;exact⟨z::A,B,by rw[h1];rfl,by simp[insR,h,h2],fun a ha=>by
    rcases ym3.1 ha with rfl|ha
    ·exact h
    ·exact h3 a ha,h4⟩
theorem zm6{x : α}{s:List α}(hs:Srt key s):Srt key (insR key s x):=by
 obtain⟨A,B,h1,h2,h3,h4⟩:=zj8 x s hs;rw[h2];rw[h1]at hs;have g:=ynz.1 hs;refine ynz.2 ⟨g.1,ymv.2 ⟨fun b hb=>List.lt_asymm (h4 b hb),g.2.1⟩,fun a ha b hb=>?_⟩;rcases ym3.1 hb with rfl|hb
 ·exact h3 a ha
 ·exact g.2.2 a ha b hb
include hup hnw in
theorem z7y{x : α}{s:List α}(hs:Srt key s):mrg key up nw (insR key s x)=insF key up nw (mrg key up nw s) x:=by
 obtain⟨A,B,h1,h2,h3,h4⟩:=zj8 x s hs;subst h1;have g:=ynz.1 hs;obtain⟨a1,a2,a3⟩:=zhp hup hnw A.length A rfl g.1;obtain⟨b1,b2,b3⟩:=zhp hup hnw B.length B rfl g.2.1;have hBk:∀ b∈mrg key up nw B,key x<key b:=fun b hb=>by obtain⟨y,y1,y2⟩:=b2 b hb;rw[y2];exact h4 y y1
 have e1:mrg key up nw (A++B)=mrg key up nw A++mrg key up nw B:=by
  rcases a3 with rfl|⟨o,z,o',y,f1,f2,f3⟩
  ·simp[mrg]
  ·have:mrg key up nw (A++B)=B.foldl (mst key up nw) (mrg key up nw A):=by simp[mrg,yo1]
   rw[this,f1];refine zya fun b hb=>?_;have hlt:key z<key b:=by rw[f3];exact z34 (h3 y (by rw[f2];simp)) (h4 b hb)
   intro e;rw[e]at hlt;exact yo7 _ hlt
 have e2:mrg key up nw (A++x::B)=mst key up nw (mrg key up nw A) x++mrg key up nw B:=by
  have:mrg key up nw (A++x::B)=B.foldl (mst key up nw) (mst key up nw (mrg key up nw A) x):=by simp[mrg,yo1]
  rw[this];obtain⟨o,u,f1,f2⟩:=zqf hup hnw (mrg key up nw A) x;rw[f1];refine zya fun b hb=>?_;intro e;have:=h4 b hb;rw[<- f2,e]at this;exact yo7 _ this
 rw[h2,e1,e2];exact(zqw hnw hBk _ a1 (fun a ha=>by
  obtain⟨y,y1,y2⟩:=a2 a ha;rw[y2];exact h3 y y1)).symm
include hup hnw in
theorem z3h(l:List α):mrg key up nw (srt key l)=nfm key up nw l/\Srt key (srt key l):=by
 have key':∀ (l s:List α),Srt key s->mrg key up nw (l.foldl (insR key) s)=l.foldl (insF key up nw) (mrg key up nw s)/\Srt key (l.foldl (insR key) s):=by
  intro l
  induction l with
  | nil=>intro s hs;exact⟨rfl,hs⟩
  | cons x l ih =>
   intro s hs;simp only[yqt];rw[<- z7y hup hnw hs];exact ih _ (zm6 hs)
 exact key' l [] (by simp[Srt])
end
def lexI:List Int->List Int->Int
 | x::xs,y::ys=>if x<y then -1 else if y<x then 1 else lexI xs ys
 | _,_=>0
theorem zu0:∀ {a b:List Int},a.length=b.length->(lexI a b<0 ↔ a<b)
 | [],[],_=>by simp[lexI]
 | x::xs,y::ys,h=>by
  have ih:=zu0 (a:=xs) (b:=ys) (by simpa using h);simp only[lexI,List.cons_lt_cons_iff];by_cases h1:x<y
  ·simp[h1]
  ·by_cases h2:y<x
   ·simp[h1,h2];omega
   ·have:x=y:=by omega
    subst this;simp[ih]
theorem zu1:∀ {a b:List Int},a.length=b.length->(lexI a b=0 ↔ a=b)
 | [],[],_=>by simp[lexI]
 | x::xs,y::ys,h=>by
  have ih:=zu1 (a:=xs) (b:=ys) (by simpa using h);simp only[lexI,List.cons.injEq];by_cases h1:x<y
  ·simp[h1];omega
  ·by_cases h2:y<x
   ·simp[h1,h2];omega
   ·have:x=y:=by omega
    subst this;simp[ih]
def cmpI(x y:Int):Int:=if x<y then -1 else if y<x then 1 else 0
open Enc (enc)
structure GArc where
 f:Int
 l:Int
 t:Int
 w:GW
structure GTArc where
 f:Int
 i:Int
 o:Int
 t:Int
 w:GW
def GW.cl(w:GW):List PV:=[.bool w.q.neg,.sl (ens w.q.num),.sl (ens w.q.den),.int .i64 w.cost,.bool w.inf,.int .u64 w.set.toNat,.sl (ens w.poly),.sl (ens w.parts)]
instance:Enc GArc:=⟨fun x=>.agg ([.int .i64 x.f,.int .i64 x.l,.int .i64 x.t]++x.w.cl),11,by decide,fun _=>rfl⟩
instance:Enc GTArc:=⟨fun x=>.agg ([.int .i64 x.f,.int .i64 x.i,.int .i64 x.o,.int .i64 x.t]++x.w.cl),12,by decide,fun _=>rfl⟩
@[simp] theorem yk3(x:GArc):enc x=.agg [.int .i64 x.f,.int .i64 x.l,.int .i64 x.t,.bool x.w.q.neg,.sl (ens x.w.q.num),.sl (ens x.w.q.den),.int .i64 x.w.cost,.bool x.w.inf,.int .u64 x.w.set.toNat,.sl (ens x.w.poly),.sl (ens x.w.parts)]:=rfl
@[simp] theorem yip(x:GTArc):enc x=.agg [.int .i64 x.f,.int .i64 x.i,.int .i64 x.o,.int .i64 x.t,.bool x.w.q.neg,.sl (ens x.w.q.num),.sl (ens x.w.q.den),.int .i64 x.w.cost,.bool x.w.inf,.int .u64 x.w.set.toNat,.sl (ens x.w.poly),.sl (ens x.w.parts)]:=rfl
@[simp] theorem yha:Enc.sz GArc=11:=rfl
@[simp] theorem yet:Enc.sz GTArc=12:=rfl
structure GAuto where
 ring:GRing
 sy:Int
 st:Int
 ini:List GW
 fin:List GW
 arcs:List GArc
structure GTrans where
 ring:GRing
 i:Int
 o:Int
 st:Int
 ini:List GW
 fin:List GW
 arcs:List GTArc
instance:Enc GAuto:=⟨fun x=>.agg [.int .i64 x.ring.kind,.sl (ens x.ring.parts),.int .i64 x.sy,.int .i64 x.st,.sl (ens x.ini),.sl (ens x.fin),.sl (ens x.arcs)],7,by decide,fun _=>rfl⟩
instance:Enc GTrans:=⟨fun x=>.agg [.int .i64 x.ring.kind,.sl (ens x.ring.parts),.int .i64 x.i,.int .i64 x.o,.int .i64 x.st,.sl (ens x.ini),.sl (ens x.fin),.sl (ens x.arcs)],8,by decide,fun _=>rfl⟩
@[simp] theorem yiv(x:GAuto):enc x=.agg [.int .i64 x.ring.kind,.sl (ens x.ring.parts),.int .i64 x.sy,.int .i64 x.st,.sl (ens x.ini),.sl (ens x.fin),.sl (ens x.arcs)]:=rfl
@[simp] theorem yhb(x:GTrans):enc x=.agg [.int .i64 x.ring.kind,.sl (ens x.ring.parts),.int .i64 x.i,.int .i64 x.o,.int .i64 x.st,.sl (ens x.ini),.sl (ens x.fin),.sl (ens x.arcs)]:=rfl
@[simp] theorem ye0:Enc.sz GAuto=7:=rfl
@[simp] theorem yd2:Enc.sz GTrans=8:=rfl
def GArc.key(x:GArc):List Int:=[x.f,x.l,x.t]
end Go.Ab
namespace Go.Ab
open Enc (enc)
attribute [local simp] zaj Opd.slots
theorem zm9(l:List GW)(f:FuncId)(caps:List PV)(p:GW->Bool)(hl:l.length<=4611686018427387904)(hf:∀ x∈l,Sp P f (enc x::caps) (.pure (.bool (p x)))) :
  Sp P F.n5 [.sl (ens l),.fn f caps] (.pure (.int .i64 (idxI p l))):=by
 refine Sp.vz c.n5 fun _=>?_;simp[g.n5]
 refine zag (S:=fun k:Nat=>mkSt [(0,.p (.sl (ens l))),(1,.p (.fn f caps)),(7,.p (.int .i64 l.length)),(8,.p (.int .i64 k))] []) (I:=fun k=>k<=l.length/\∀ x∈l.take k,p x=false) (m:=fun k=>l.length - k) 0
  (Weak.to [0,1,7,8] [] (by simp)) ⟨by omega,by simp⟩ ?_
 rintro k ⟨h1,h2⟩ R hn hr hx;have e1:=i64s k;simp[g.vj,mkSt];refine⟨fun hk=>?_,fun hk=>hx _ _ ?_⟩
 ·refine zae hk ?_
  try simp
  refine zaa (hf l[k] (ym7 hk)) (zb5 (by simp) (zf4 _ _)) ?_;rcases yms (p l[k])with h3|h3
  ·simp[h3];refine hr _ ?_;simp[zu5 hk h2 h3]
  ·simp[h3,e1];refine hn (k+1) _ (Weak.to [0,1,7,8] [] (by simp)) ⟨by omega,fun x hx=>?_⟩ (by omega);rw[ymg hk]at hx;rcases ymc.1 hx with hx|hx
   ·exact h2 x hx
   ·simp at hx;rw[hx];exact h3
 ·have:k=l.length:=by omega
  subst this;simp[zna (p:=p) (l:=l) (by simpa using h2)]
theorem zn2(l:List GW)(f:FuncId)(caps:List PV)(p:GW->Bool)(hl:l.length<=4611686018427387904)(hf:∀ x∈l,Sp P f (enc x::caps) (.pure (.bool (p x)))) :
  Sp P F.nm [.sl (ens l),.fn f caps] (.pure (.bool (l.any p))):=by
 refine Sp.vz c.nm fun _=>?_;simp[g.nm];refine zaa (zm9 l f caps p hl hf) rfl ?_;simp[zim]
theorem zkp(l:List GArc)(f:FuncId)(caps:List PV)(p:GArc->Bool)(hl:l.length<=4611686018427387904)(hf:∀ x∈l,Sp P f (enc x::caps) (.pure (.bool (p x)))) :
  Sp P F.je [.sl (ens l),.fn f caps] (.pure (.int .i64 (idxI p l))):=by
 refine Sp.vz c.je fun _=>?_;simp[g.je]
 refine zag (S:=fun k:Nat=>mkSt [(0,.p (.sl (ens l))),(1,.p (.fn f caps)),(7,.p (.int .i64 l.length)),(8,.p (.int .i64 k))] []) (I:=fun k=>k<=l.length/\∀ x∈l.take k,p x=false) (m:=fun k=>l.length - k) 0
  (Weak.to [0,1,7,8] [] (by simp)) ⟨by omega,by simp⟩ ?_
 rintro k ⟨h1,h2⟩ R hn hr hx;have e1:=i64s k;simp[g.ul,mkSt];refine⟨fun hk=>?_,fun hk=>hx _ _ ?_⟩
 ·refine zae hk ?_
  try simp
  refine zaa (hf l[k] (ym7 hk)) (zb5 (by simp) (zf4 _ _)) ?_;rcases yms (p l[k])with h3|h3
  ·simp[h3];refine hr _ ?_;simp[zu5 hk h2 h3]
  ·simp[h3,e1];refine hn (k+1) _ (Weak.to [0,1,7,8] [] (by simp)) ⟨by omega,fun x hx=>?_⟩ (by omega);rw[ymg hk]at hx;rcases ymc.1 hx with hx|hx
   ·exact h2 x hx
   ·simp at hx;rw[hx];exact h3
 ·have:k=l.length:=by omega
  subst this;simp[zna (p:=p) (l:=l) (by simpa using h2)]
theorem zu7(l:List GArc)(f:FuncId)(caps:List PV)(p:GArc->Bool)(hl:l.length<=4611686018427387904)(hf:∀ x∈l,Sp P f (enc x::caps) (.pure (.bool (p x)))) :
  Sp P F.lh [.sl (ens l),.fn f caps] (.pure (.bool (l.any p))):=by
 refine Sp.vz c.lh fun _=>?_;simp[g.lh];refine zaa (zkp l f caps p hl hf) rfl ?_;simp[zim]
theorem zk1(l m:List GMono)(f:FuncId)(hl:l.length<=4611686018427387904)(hf:∀ x∈l,∀ y∈m,Sp P f [enc x,enc y] (.pure (.bool (decide (x=y))))) :
  Sp P F.mi [.sl (ens l),.sl (ens m),.fn f []] (.pure (.bool (decide (l=m)))):=by
 refine Sp.vz c.mi fun _=>?_;simp[g.mi];refine⟨fun h=>?_,fun h=>fun he=>h (by rw[he])⟩;have hlen:l.length=m.length:=by omega
 refine zag (S:=fun k:Nat=>mkSt [(1,.p (.sl (ens m))),(2,.p (.fn f [])),(15,.p (.sl (ens l))),(16,.p (.int .i64 l.length)),(17,.p (.int .i64 k))] []) (I:=fun k=>k<=l.length/\l.take k=m.take k) (m:=fun k=>l.length - k) 0
  (Weak.to [1,2,15,16,17] [] (by simp)) ⟨by omega,by simp⟩ ?_
 rintro k ⟨h1,h2⟩ R hn hr hx;have e1:=i64s k;simp[g.um,mkSt];refine⟨fun hk=>?_,fun hk=>hx _ _ ?_⟩
 ·have hk2:k<m.length:=by omega
  have bad:l[k]≠m[k]->l≠m:=fun h h'=>by subst h';exact h rfl
  refine zae hk ?_
  try simp
  refine zae hk2 ?_
  try simp
  refine zab (hf l[k] (ym7 hk) m[k] (ym7 hk2)) ?_;by_cases h6:l[k]=m[k]
  ·simp[h6,e1];exact hn (k+1) _ (Weak.to [1,2,15,16,17] [] (by simp)) ⟨by omega,by rw[ymg hk,ymg hk2,h2,h6]⟩ (by omega)
  ·have h8:l≠m:=bad h6;simp[h6];exact hr _ (by simp[h8])
 ·have h3:l=m:=by rw[<- List.take_length (l:=l),<- List.take_length (l:=m),<- hlen,show l.length=k by omega];exact h2
  simp[h3]
theorem zn3(l m:List GW)(f:FuncId)(hl:l.length<=4611686018427387904)(hf:∀ x∈l,∀ y∈m,Sp P f [enc x,enc y] (.pure (.bool (decide (x=y))))) :
  Sp P F.mj [.sl (ens l),.sl (ens m),.fn f []] (.pure (.bool (decide (l=m)))):=by
 refine Sp.vz c.mj fun _=>?_;simp[g.mj];refine⟨fun h=>?_,fun h=>fun he=>h (by rw[he])⟩;have hlen:l.length=m.length:=by omega
 refine zag (S:=fun k:Nat=>mkSt [(1,.p (.sl (ens m))),(2,.p (.fn f [])),(15,.p (.sl (ens l))),(16,.p (.int .i64 l.length)),(17,.p (.int .i64 k))] []) (I:=fun k=>k<=l.length/\l.take k=m.take k) (m:=fun k=>l.length - k) 0
  (Weak.to [1,2,15,16,17] [] (by simp)) ⟨by omega,by simp⟩ ?_
 rintro k ⟨h1,h2⟩ R hn hr hx;have e1:=i64s k;simp[g.un,mkSt];refine⟨fun hk=>?_,fun hk=>hx _ _ ?_⟩
 ·have hk2:k<m.length:=by omega
  have bad:l[k]≠m[k]->l≠m:=fun h h'=>by subst h';exact h rfl
  refine zae hk ?_
  try simp
  refine zae hk2 ?_
  try simp
  refine zab (hf l[k] (ym7 hk) m[k] (ym7 hk2)) ?_;by_cases h6:l[k]=m[k]
  ·simp[h6,e1];exact hn (k+1) _ (Weak.to [1,2,15,16,17] [] (by simp)) ⟨by omega,by rw[ymg hk,ymg hk2,h2,h6]⟩ (by omega)
  ·have h8:l≠m:=bad h6;simp[h6];exact hr _ (by simp[h8])
 ·have h3:l=m:=by rw[<- List.take_length (l:=l),<- List.take_length (l:=m),<- hlen,show l.length=k by omega];exact h2
  simp[h3]
theorem zrd(l:List GArc)(hl:l.length<=2147483648):Sp P F.b7 [.sl (ens l)] (.fresh 11 (ens l)):=by
 cases l with
 | nil =>
  refine Sp.nilcase ?_ ?_
  ·refine Sp.vz c.b7 fun _=>?_;simp[g.b7]
  ·refine Sp.vz c.b7 fun _=>?_;simp[g.b7,LIM]
 | cons x l =>
  refine Sp.vz c.b7 fun _=>?_;simp at hl;simp[g.b7,LIM,hl]
theorem zxz(x:Int):Sp P F.n7 [.int .i64 x] (.pure (.bool false)):=by refine Sp.vz c.n7 fun _=>?_;simp[g.n7]
theorem zke(x y:Int):Sp P F.jr [.int .i64 x,.int .i64 y] (.pure (.int .i64 (cmpI x y))):=by refine Sp.vz c.jr fun _=>?_;simp[g.jr];refine zaa (zxz x) rfl ?_;simp;refine zaa (zxz y) rfl ?_;simp[cmpI];refine⟨fun _ _=>by split<;>omega,fun _=>⟨fun _=>by(repeat' split)<;>omega,fun _=>by(repeat' split)<;>omega⟩⟩
def zh7:List Int->Int
 | []=>0
 | x::r=>if x=0 then zh7 r else x
theorem zva{l:List Int}:∀ {k:Nat},(∀ x∈l.take k,x=0)->zh7 l=zh7 (l.drop k):=by
 intro k
 induction l generalizing k with
 | nil=>simp
 | cons x l ih =>
  cases k with
  | zero=>simp
  | succ k =>
   intro h;have:x=0:=h x (by simp);simp only[zh7,this,ym2,yqi];exact ih fun y hy=>h y (by simp[hy])
theorem z9h(l:List Int)(hl:l.length<=4611686018427387904):Sp P F.nq [.sl (ens l)] (.pure (.int .i64 (zh7 l))):=by
 refine Sp.vz c.nq fun _=>?_;simp[g.nq]
 refine zag (S:=fun k:Nat=>mkSt [(3,.p (.int .i64 0)),(6,.p (.sl (ens l))),(7,.p (.int .i64 l.length)),(8,.p (.int .i64 k))] []) (I:=fun k=>k<=l.length/\∀ x∈l.take k,x=0) (m:=fun k=>l.length - k) 0
  (Weak.to [3,6,7,8] [] (by simp)) ⟨by omega,by simp⟩ ?_
 rintro k ⟨h1,h2⟩ R hn hr hx;have e1:=i64s k;have hd:=zva h2;simp[g.vg,mkSt];refine⟨fun hk=>?_,fun hk=>hx _ _ ?_⟩
 ·have hdk:l.drop k=l[k]::l.drop (k+1):=ynt hk;rw[hdk]at hd;refine zae hk ?_;simp[e1];refine⟨fun h3=>?_,fun h3=>?_⟩
  ·refine hn (k+1) _ (Weak.to [3,6,7,8] [] (by simp)) ⟨by omega,fun x hx=>?_⟩ (by omega);rw[ymg hk]at hx;rcases ymc.1 hx with hx|hx
   ·exact h2 x hx
   ·simp at hx;rw[hx];exact h3
  ·refine hr _ ?_;simp[zh7,h3]at hd;simp[hd]
 ·have:k=l.length:=by omega
  subst this;simp[zh7]at hd;simp[hd]
theorem zpc(l m:List UInt32)(hl:l.length<=4611686018427387904):Sp P F.na [.sl (ens l),.sl (ens m)] (.pure (.bool (decide (l=m)))):=by
 refine Sp.vz c.na fun _=>?_;simp[g.na];refine⟨fun h=>?_,fun h=>fun he=>h (by rw[he])⟩;have hlen:l.length=m.length:=by omega
 refine zag (S:=fun k:Nat=>mkSt [(0,.p (.sl (ens l))),(1,.p (.sl (ens m))),(12,.p (.int .i64 l.length)),(13,.p (.int .i64 k))] []) (I:=fun k=>k<=l.length/\l.take k=m.take k) (m:=fun k=>l.length - k) 0
  (Weak.to [0,1,12,13] [] (by simp)) ⟨by omega,by simp⟩ ?_
 rintro k ⟨h1,h2⟩ R hn hr hx;have e1:=i64s k;simp[g.u9,mkSt];refine⟨fun hk=>?_,fun hk=>hx _ _ ?_⟩
 ·have hk2:k<m.length:=by omega
  have bad:l[k]≠m[k]->l≠m:=fun h h'=>by subst h';exact h rfl
  refine zae hk ?_;refine zae hk2 ?_;simp[e1];refine⟨fun h6=>?_,fun h6=>?_⟩
  ·have h7:l[k]=m[k]:=UInt32.toNat_inj.1 (by omega);exact hn (k+1) _ (Weak.to [0,1,12,13] [] (by simp)) ⟨by omega,by rw[ymg hk,ymg hk2,h2,h7]⟩ (by omega)
  ·have h8:l≠m:=bad fun h=>h6 (by rw[h]);exact hr _ (by simp[h8])
 ·have h3:l=m:=by rw[<- List.take_length (l:=l),<- List.take_length (l:=m),<- hlen,show l.length=k by omega];exact h2
  simp[h3]
theorem zoh(x y:GRat)(hx:x.sm 1073741824):Sp P F.jg [enc x,enc y] (.pure (.bool (decide (x=y)))):=by
 refine Sp.vz c.jg fun _=>?_;simp[g.jg];have key:∀ (x y:GRat),x=y ↔ x.neg=y.neg/\x.num=y.num/\x.den=y.den:=by intro x y;cases x;cases y;simp
 refine⟨fun h1=>?_,fun h1=>?_⟩
 ·refine zaa (zpc x.num y.num (by have:=hx.1;omega)) rfl ?_;by_cases h2:x.num=y.num
  ·simp[h2];refine zaa (zpc x.den y.den (by have:=hx.2;omega)) rfl ?_;simp[key x y,h1,h2]
  ·simp[key x y,h2]
 ·simp[key x y,h1]
theorem zon(e:Ex)(h:(-1000<e.a/\e.a<1000)/\(-1000<e.b/\e.b<1000) /\ -1000<e.c/\e.c<1000):Sp P F.j0 [enc e] (.pure (.int .i64 (e.a+e.b+e.c))):=by have e1:IntKind.i64.wrap e.a=e.a:=i64w (by omega) (by omega);have e2:IntKind.i64.wrap (e.a+e.b)=e.a+e.b:=i64w (by omega) (by omega);have e3:IntKind.i64.wrap (e.a+e.b+e.c)=e.a+e.b+e.c:=i64w (by omega) (by omega);refine Sp.vz c.j0 fun _=>?_;simp[g.j0];refine zaw fun R hn hr hx=>?_;simp[g.pd,e1];refine hn _ ?_;clear hn hr hx;refine zaw fun R hn hr hx=>?_;simp[g.pd,e2];refine hn _ ?_;clear hn hr hx;refine zaw fun R hn hr hx=>?_;simp[g.pd,e3];refine hn _ ?_;clear hn hr hx;refine zaw fun R hn hr hx=>?_;simp[g.pd];refine hx _ _ ?_;simp
theorem zsg(d e:Ex):Sp P F.jx [enc d,enc e] (.pure (.int .i64 (e.cmp d))):=by
 refine Sp.vz c.jx fun _=>?_;simp[g.jx];refine zaw fun R hn hr hx=>?_;simp[g.pb];refine zaa (zke e.a d.a) rfl ?_;simp;refine⟨fun h=>?_,fun h=>?_⟩;rotate_left
 ·refine hr _ ?_;simp;unfold cmpI at h ⊢;unfold Ex.cmp
  (repeat' split)<;>first|rfl|omega|simp_all
 refine hn _ ?_;clear hn hr hx;refine zaw fun R hn hr hx=>?_;simp[g.pb];refine zaa (zke e.b d.b) rfl ?_;simp;refine⟨fun h2=>?_,fun h2=>?_⟩;rotate_left
 ·refine hr _ ?_;simp;unfold cmpI at h h2 ⊢;unfold Ex.cmp
  (repeat' split)<;>first|rfl|omega|simp_all
 refine hn _ ?_;clear hn hr hx;refine zaw fun R hn hr hx=>?_;simp[g.pb];refine zaa (zke e.c d.c) rfl ?_;simp;refine⟨fun h3=>?_,fun h3=>?_⟩;rotate_left
 ·refine hr _ ?_;simp;unfold cmpI at h h2 h3 ⊢;unfold Ex.cmp
  (repeat' split)<;>first|rfl|omega|simp_all
 refine hn _ ?_;clear hn hr hx;refine zaw fun R hn hr hx=>?_;simp[g.pb];refine hx _ _ ?_;simp;unfold cmpI at h h2 h3;unfold Ex.cmp
 (repeat' split)<;>first|rfl|omega|simp_all
theorem z7o(m:GMono)(hm:m.coef.sm 1048576):Sp P F.od [enc m] (.pure (.bool m.ok)):=by
 have bad:(¬ (0<=m.e.a/\m.e.a<=5)\/¬ (0<=m.e.b/\m.e.b<=5)\/¬ (0<=m.e.c/\m.e.c<=5))->m.ok=false:=by
  intro h;have:m.e.ok=false:=by simp only[Ex.ok,decide_eq_false_iff_not];omega
  simp[GMono.ok,this]
 refine Sp.vz c.od fun _=>?_;simp[g.od];refine zaw fun R hn hr hx=>?_;by_cases ha:0<=m.e.a;rotate_left
 ·simp[g.dw,show m.e.a<0 by omega];refine hr _ ?_;simp[bad (by omega)]
 by_cases ha2:m.e.a<=5;rotate_left
 ·simp[g.dw,show ¬ m.e.a<0 by omega,show 5<m.e.a by omega];refine hr _ ?_;simp[bad (by omega)]
 simp[g.dw,show ¬ m.e.a<0 by omega,show ¬ 5<m.e.a by omega];refine hn _ ?_;clear hn hr hx;refine zaw fun R hn hr hx=>?_;by_cases hb:0<=m.e.b;rotate_left
 ·simp[g.dw,show m.e.b<0 by omega];refine hr _ ?_;simp[bad (by omega)]
 by_cases hb2:m.e.b<=5;rotate_left
 ·simp[g.dw,show ¬ m.e.b<0 by omega,show 5<m.e.b by omega];refine hr _ ?_;simp[bad (by omega)]
 simp[g.dw,show ¬ m.e.b<0 by omega,show ¬ 5<m.e.b by omega];refine hn _ ?_;clear hn hr hx;refine zaw fun R hn hr hx=>?_;by_cases hc:0<=m.e.c;rotate_left
 ·simp[g.dw,show m.e.c<0 by omega];refine hr _ ?_;simp[bad (by omega)]
 by_cases hc2:m.e.c<=5;rotate_left
 ·simp[g.dw,show ¬ m.e.c<0 by omega,show 5<m.e.c by omega];refine hr _ ?_;simp[bad (by omega)]
 simp[g.dw,show ¬ m.e.c<0 by omega,show ¬ 5<m.e.c by omega];refine hn _ ?_;clear hn hr hx;refine zaw fun R hn hr hx=>?_;simp[g.dw];refine hx _ _ ?_;clear hn hr hx;simp;refine zaa (zon m.e (by omega)) rfl ?_;simp;refine⟨fun hd=>?_,fun hd=>?_⟩
 ·have hok:m.e.ok=true:=by simp only[Ex.ok,decide_eq_true_eq];omega
  refine zaa (zl7 m.coef (hm.mono (by omega))) rfl ?_;rcases yms m.coef.valid with hv|hv
  ·simp[hv];refine zaa (zld m.coef (hm.mono (by omega))) rfl ?_;simp[GMono.ok,hok,hv,zfg]
  ·simp[hv,GMono.ok]
 ·have hok:m.e.ok=false:=by simp only[Ex.ok,decide_eq_false_iff_not];omega
  simp[GMono.ok,hok]
theorem zse(p:List GMono)(hp:psm p 1048576)(hl:p.length<=1073741824):Sp P F.jv [.sl (ens p)] (.pure (.bool (decide (PVal p)))):=by
 refine Sp.vz c.jv fun _=>?_;simp[g.jv]
 refine zag (S:=fun k:Nat=>mkSt [(0,.p (.sl (ens p))),(5,.p (.sl (ens p))),(6,.p (.int .i64 p.length)),(7,.p (.int .i64 k))] []) (I:=fun k=>k<=p.length/\∀ i,(h:i<p.length)->i<k->p[i].ok=true/\(0<i->p[i].e.cmp (p[i - 1]'(by omega)).e<0)) (m:=fun k=>p.length - k) 0
  (Weak.to [0,5,6,7] [] (by simp)) ⟨by omega,fun i h h0=>by omega⟩ ?_
 rintro k ⟨h1,h2⟩ R hn hr hx;have e3:=i64s k;simp[g.vi,mkSt];refine⟨fun hk=>?_,fun hk=>hx _ _ ?_⟩
 ·have bad:¬ (p[k].ok=true/\(0<k->p[k].e.cmp (p[k - 1]'(by omega)).e<0))->decide (PVal p)=false:=fun h=>decide_eq_false fun hv=>h (hv k hk);refine zae hk ?_
  try simp
  refine zab (z7o p[k] (hp _ (ym7 hk))) ?_;have step:p[k].ok=true->(0<k->p[k].e.cmp (p[k - 1]'(by omega)).e<0)->∀ i,(h:i<p.length)->i<k+1->p[i].ok=true/\(0<i->p[i].e.cmp (p[i - 1]'(by omega)).e<0):=by
   intro a b i h hi;by_cases hik:i<k
   ·exact h2 i h hik
   ·have:i=k:=by omega
    subst this;exact⟨a,b⟩
  rcases yms p[k].ok with h3|h3;rotate_left
  ·simp[h3];refine hr _ ?_;simp;simpa using bad (by simp[h3])
  by_cases h0:0<k;rotate_left
  ·have:k=0:=by omega
   subst this;simp[h3];refine hn 1 _ (Weak.to [0,5,6,7] [] (by simp)) ⟨by omega,step h3 (by omega)⟩ (by omega)
  have e1:IntKind.i64.wrap ((k:Int) - 1)=((k - 1:Nat):Int):=by rw[i64w (by omega) (by omega)];omega
  have e2:0<(k:Int):=by omega
  have hk1:k - 1<p.length:=by omega
  simp[h3,e1,h0];refine zae hk1 ?_
  try simp
  refine zab (zsg p[k - 1].e p[k].e) ?_;by_cases h4:p[k].e.cmp p[k - 1].e<0
  ·simp[show ¬ (0<=p[k].e.cmp p[k - 1].e) by omega,e3];refine hn (k+1) _ (Weak.to [0,5,6,7] [] (by simp)) ⟨by omega,step h3 (fun _=>h4)⟩ (by omega)
  ·simp[show 0<=p[k].e.cmp p[k - 1].e by omega];refine hr _ ?_;simp;simpa using bad (fun h=>h4 (h.2 h0))
 ·have:PVal p:=fun i h=>h2 i h (by omega);simp[this]
theorem zsd(p:List GMono)(hp:psm p 1048576)(hl:p.length<=1073741824):Sp P F.jz [.sl (ens p)] (.pure (.sl (ens (pv p)))):=by
 refine Sp.vz c.jz fun _=>?_;simp[g.jz];refine zaa (zse p hp hl) rfl ?_;by_cases h:PVal p
 ·simp[h,pv]
 ·simp[h,pv]
def gr0:GRat:=⟨false,[],[]⟩
def gw0:GW:=.mk gr0 0 false 0 [] []
def GW.si(k:Int)(w:GW):Prop:=w.parts=[]/\(k≠1->k≠3->w.q=gr0)/\(k≠2->w.inf=false/\w.cost=0)/\(k≠4->w.set=0)/\(k≠5->w.poly=[]) /\
 (k=1->w.q.valid=true)/\(k=2->0<=w.cost/\w.cost<=1099511627776/\(w.inf=true->w.cost=0))/\(k=3->w.q.valid=true/\0<=w.q.v/\w.q.v<=1)/\(k=5->PVal w.poly)
noncomputable instance (k:Int) (w:GW):Decidable (w.si k):=Classical.propDecidable _
theorem set0{x:UInt64}:x.toNat=0 ↔ x=0:=by rw[<- UInt64.toNat_inj];rfl
theorem len0{α : Type}{l:List α}:0<l.length ↔ l≠[]:=yod
theorem si1{w:GW}:w.si 1 ↔ w.parts=[]/\w.inf=false/\w.cost=0/\w.set=0/\w.poly=[]/\w.q.valid=true:=by simp[GW.si,and_assoc]
theorem si2{w:GW}:w.si 2 ↔ w.parts=[]/\w.q=gr0/\w.set=0/\w.poly=[]/\0<=w.cost/\w.cost<=1099511627776/\(w.inf=true->w.cost=0):=by simp[GW.si]
theorem si3{w:GW}:w.si 3 ↔ w.parts=[]/\w.inf=false/\w.cost=0/\w.set=0/\w.poly=[]/\w.q.valid=true/\0<=w.q.v/\w.q.v<=1:=by simp[GW.si,and_assoc]
theorem si4{w:GW}:w.si 4 ↔ w.parts=[]/\w.q=gr0/\w.inf=false/\w.cost=0/\w.poly=[]:=by simp[GW.si,and_assoc]
theorem si5{w:GW}:w.si 5 ↔ w.parts=[]/\w.q=gr0/\w.inf=false/\w.cost=0/\w.set=0/\PVal w.poly:=by simp[GW.si,and_assoc]
theorem zfy{q:Rat}:0<=sgnR q ↔ 0<=q:=by rw[<- Rat.num_nonneg];unfold sgnR;(repeat' split)<;>omega
theorem z15:(rto 1).sm 1:=⟨zar (by decide),by decide⟩
theorem z1t(w:GW)(hw:w.sm 1048576):Sp P F.ae [.int .i64 1,enc w] (.pure (.bool (decide (w.si 1)))):=by
 refine Sp.vz c.ae fun _=>?_;rcases yms w.inf with hb|hb
 ·simp[g.ae];refine zaa (zcl w.q gr0 (hw.q.mono (by omega))) rfl ?_;simp[hb];exact⟨fun _ h=>by have:=(si1.1 h).2;simp[hb]at this,fun _ h=>by have:=(si1.1 h).2;simp[hb]at this⟩
 ·simp[g.ae];refine zaa (zcl w.q gr0 (hw.q.mono (by omega))) rfl ?_;simp[hb];simp only[si1,set0,len0,hb];refine⟨fun h1 h=>h1 h.1,fun h1=>⟨fun h2=>⟨fun h3=>⟨fun h4 h=>h4 h.2.2.2.2.1,fun h4=>?_⟩,fun h3 h=>h3 h.2.2.2.1⟩,fun h2 h=>h2 h.2.2.1⟩⟩;refine zaa (ziv w.q (hw.q.mono (by omega))) rfl ?_;simp[h1,h2,h3,h4]
theorem z1s(w:GW)(hw:w.sm 1048576):Sp P F.ae [.int .i64 2,enc w] (.pure (.bool (decide (w.si 2)))):=by
 refine Sp.vz c.ae fun _=>?_;rcases yms w.inf with hb|hb
 ·simp[g.ae];refine zaa (zcl w.q gr0 (hw.q.mono (by omega))) rfl ?_;simp[hb];simp only[si2,set0,len0,hb];refine⟨fun h1 h=>h1 h.1,fun h1=>⟨fun h2=>⟨fun h3=>⟨fun h4 h=>h4 h.2.2.2.1,fun h4=>⟨fun h5=>⟨fun h6=>?_,fun h6 h=>?_⟩,fun h5 h=>?_⟩⟩,fun h3 h=>h3 h.2.2.1⟩,fun h2 h=>h2 h.2.1⟩⟩
  ·simp[h1,h2,h3,h4,h5,h6]
  ·have:=h.2.2.2.2.2.1;omega
  ·have:=h.2.2.2.2.1;omega
 ·simp[g.ae];refine zaa (zcl w.q gr0 (hw.q.mono (by omega))) rfl ?_;simp[hb];simp only[si2,set0,len0,hb];refine⟨fun h1 h=>h1 h.1,fun h1=>⟨fun h2=>⟨fun h3=>⟨fun h4 h=>h4 h.2.2.2.1,fun h4=>⟨fun h5=>⟨fun h6=>?_,fun h6 h=>?_⟩,fun h5 h=>?_⟩⟩,fun h3 h=>h3 h.2.2.1⟩,fun h2 h=>h2 h.2.1⟩⟩
  ·simp[h1,h2,h3,h4,h5,h6]
  ·have:=h.2.2.2.2.2.1;omega
  ·have:=h.2.2.2.2.1;omega
theorem z1r(w:GW)(hw:w.sm 1048576):Sp P F.ae [.int .i64 3,enc w] (.pure (.bool (decide (w.si 3)))):=by
 refine Sp.vz c.ae fun _=>?_;rcases yms w.inf with hb|hb
 ·simp[g.ae];refine zaa (zcl w.q gr0 (hw.q.mono (by omega))) rfl ?_;simp[hb];exact⟨fun _ h=>by have:=(si3.1 h).2;simp[hb]at this,fun _ h=>by have:=(si3.1 h).2;simp[hb]at this⟩
 ·simp[g.ae];refine zaa (zcl w.q gr0 (hw.q.mono (by omega))) rfl ?_;simp[hb];simp only[si3,set0,len0,hb];refine⟨fun h1 h=>h1 h.1,fun h1=>⟨fun h2=>⟨fun h3=>⟨fun h4 h=>h4 h.2.2.2.2.1,fun h4=>?_⟩,fun h3 h=>h3 h.2.2.2.1⟩,fun h2 h=>h2 h.2.2.1⟩⟩;refine zaa (ziv w.q (hw.q.mono (by omega))) rfl ?_;rcases yms w.q.valid with h5|h5;rotate_left
  ·simp[h1,h2,h3,h4,h5]
  simp[h1,h2,h3,h4,h5];refine zaa (ziy w.q (hw.q.mono (by omega))) rfl ?_;simp;refine⟨fun h6=>?_,fun h6=>?_⟩
  ·have hd:Rat.divInt 1 1=1:=rfl;have hof:=ygj 1 1 (by omega) (by omega) (by omega);rw[hd]at hof;refine zaa hof rfl ?_;simp;refine zaa (zxu (rto 1) w.q (z15.mono (by omega)) hw.q) rfl ?_;have h7:=zfy.1 h6;simp[zgm,h7];by_cases h8:1<w.q.v
   ·simp[h8,Rat.not_le.2 h8]
   ·simp[h8,yp1.1 h8]
  ·have h7:¬ 0<=w.q.v:=fun h=>by have:=zfy.2 h;omega
   simp[h7]
theorem z1q(w:GW)(hw:w.sm 1048576):Sp P F.ae [.int .i64 4,enc w] (.pure (.bool (decide (w.si 4)))):=by
 refine Sp.vz c.ae fun _=>?_;rcases yms w.inf with hb|hb
 ·simp[g.ae];refine zaa (zcl w.q gr0 (hw.q.mono (by omega))) rfl ?_;simp[hb];exact⟨fun _ h=>by have:=(si4.1 h).2;simp[hb]at this,fun _ h=>by have:=(si4.1 h).2;simp[hb]at this⟩
 ·simp[g.ae];refine zaa (zcl w.q gr0 (hw.q.mono (by omega))) rfl ?_;simp[hb];simp only[si4,len0,hb];refine⟨fun h1 h=>h1 h.1,fun h1=>⟨fun h2=>⟨fun h3=>⟨fun h4 h=>h4 h.2.2.2.2,fun h4=>by simp[h1,h2,h3,h4]⟩,fun h3 h=>h3 h.2.2.2.1⟩,fun h2 h=>h2 h.2.1⟩⟩
theorem z1p(w:GW)(hw:w.sm 1048576):Sp P F.ae [.int .i64 5,enc w] (.pure (.bool (decide (w.si 5)))):=by
 refine Sp.vz c.ae fun _=>?_;rcases yms w.inf with hb|hb
 ·simp[g.ae];refine zaa (zcl w.q gr0 (hw.q.mono (by omega))) rfl ?_;simp[hb];exact⟨fun _ h=>by have:=(si5.1 h).2;simp[hb]at this,fun _ h=>by have:=(si5.1 h).2;simp[hb]at this⟩
 ·simp[g.ae];refine zaa (zcl w.q gr0 (hw.q.mono (by omega))) rfl ?_;simp[hb];simp only[si5,set0,len0,hb];refine⟨fun h1 h=>h1 h.1,fun h1=>⟨fun h2=>⟨fun h3=>⟨fun h4=>?_,fun h4 h=>h4 h.2.2.2.2.1⟩,fun h3 h=>h3 h.2.2.2.1⟩,fun h2 h=>h2 h.2.1⟩⟩;refine zaa (zrq w.poly hw.poly (by have:=hw.len;omega)) rfl ?_;simp[h1,h2,h3,h4]
theorem zr2(k:Int)(w:GW)(hk:1<=k/\k<=5)(hw:w.sm 1048576):Sp P F.ae [.int .i64 k,enc w] (.pure (.bool (decide (w.si k)))):=by
 have:k=1\/k=2\/k=3\/k=4\/k=5:=by omega
 rcases this with rfl|rfl|rfl|rfl|rfl
 ·exact z1t w hw
 ·exact z1s w hw
 ·exact z1r w hw
 ·exact z1q w hw
 ·exact z1p w hw
def GW.chk(r:GRing)(w:GW):Prop:=r.ok=true/\(r.kind≠6->w.si r.kind)/\(r.kind=6->w.parts.length=r.parts.length/\w=.mk gr0 0 false 0 [] w.parts/\∀ i,(h:i<r.parts.length)->(h':i<w.parts.length)->w.parts[i].si r.parts[i])
noncomputable instance (r:GRing) (w:GW):Decidable (w.chk r):=Classical.propDecidable _
theorem GRing.ok_kind{r:GRing}(h:r.ok=true)(h6:r.kind≠6):1<=r.kind/\r.kind<=5/\r.parts=[]:=by simp only[GRing.ok,yl9 h6,decide_eq_true_eq]at h;exact h
theorem GRing.ok_parts{r:GRing}(h:r.ok=true)(h6:r.kind=6):2<=r.parts.length/\r.parts.length<=3/\∀ k∈r.parts,1<=k/\k<=5:=by simp only[GRing.ok,ym0 h6,decide_eq_true_eq]at h;exact h
@[simp] theorem GW.q_mk(q:GRat)(c:Int)(i:Bool)(s:UInt64)(p:List GMono)(ps:List GW):(GW.mk q c i s p ps).q=q:=rfl
@[simp] theorem GW.cost_mk(q:GRat)(c:Int)(i:Bool)(s:UInt64)(p:List GMono)(ps:List GW):(GW.mk q c i s p ps).cost=c:=rfl
@[simp] theorem GW.inf_mk(q:GRat)(c:Int)(i:Bool)(s:UInt64)(p:List GMono)(ps:List GW):(GW.mk q c i s p ps).inf=i:=rfl
@[simp] theorem GW.set_mk(q:GRat)(c:Int)(i:Bool)(s:UInt64)(p:List GMono)(ps:List GW):(GW.mk q c i s p ps).set=s:=rfl
@[simp] theorem GW.poly_mk(q:GRat)(c:Int)(i:Bool)(s:UInt64)(p:List GMono)(ps:List GW):(GW.mk q c i s p ps).poly=p:=rfl
@[simp] theorem GW.parts_mk(q:GRat)(c:Int)(i:Bool)(s:UInt64)(p:List GMono)(ps:List GW):(GW.mk q c i s p ps).parts=ps:=rfl
@[simp] theorem yks:gr0.neg=false:=rfl
@[simp] theorem ykr:gr0.num=[]:=rfl
@[simp] theorem ykt:gr0.den=[]:=rfl
theorem zg7(n:Nat):gr0.sm n:=⟨by simp[gr0],by simp[gr0]⟩
theorem GW.sm.tup{n:Nat}{ps:List GW}(h:ps.length<=n)(k:∀ w∈ps,w.sm n):(GW.mk gr0 0 false 0 [] ps).sm n:=.mk (zg7 n) (by intro m hm;simp at hm) (by simp) h k
theorem zji(r:GRing)(w:GW)(hw:w.sm 1048576):Sp P F.d8 [enc r,enc w] (.pure (.bool (decide (w.chk r)))):=by
 refine Sp.vz c.d8 fun _=>?_;simp[g.d8];refine zaa (zch r) rfl ?_;rcases yms r.ok with hr0|hr0;rotate_left
 ·simp[hr0,GW.chk]
 simp[hr0];refine⟨fun h6=>?_,fun h6=>?_⟩;rotate_left
 ·have hk:=GRing.ok_kind hr0 h6;refine zab (zr2 r.kind w ⟨hk.1,hk.2.1⟩ hw) ?_;simp[GW.chk,hr0,h6]
 refine⟨fun hl=>?_,fun hl h=>?_⟩;rotate_left
 ·have:=(h.2.2 h6).1;omega
 have hl':w.parts.length=r.parts.length:=by omega
 have hp:=GRing.ok_parts hr0 h6;refine zab (zs9 (.mk gr0 0 false 0 [] w.parts) (.tup hw.plen hw.parts) w) ?_;by_cases he:GW.mk gr0 0 false 0 [] w.parts=w;rotate_left
 ·simp[he];exact fun h=>he (h.2.2 h6).2.1.symm
 simp[he]
 refine zag (S:=fun k:Nat=>mkSt [(2,.ptr 1 0 0 0),(3,.ptr 2 0 0 0),(5,.p (.int .i64 k))] [(1,⟨2,[.p (enc r)]⟩),(2,⟨8,[.p (enc w)]⟩)]) (I:=fun k=>k<=r.parts.length/\∀ i,(h:i<r.parts.length)->(h':i<w.parts.length)->i<k->w.parts[i].si r.parts[i]) (m:=fun k=>r.parts.length - k) 0
  (Weak.to [2,3,5] [((2,0),1),((3,0),2)] (by simp)) ⟨by omega,fun i h h' h0=>by omega⟩ ?_
 rintro k ⟨h7,h8⟩ R hn hr hx;have e1:=i64s k;simp[g.so,mkSt];refine⟨fun hk=>?_,fun hk=>hx _ _ ?_⟩
 ·have hk2:k<w.parts.length:=by omega
  refine zae hk ?_;refine zae hk2 ?_;refine zab (zr2 r.parts[k] w.parts[k] (hp.2.2 _ (ym7 hk)) (hw.parts _ (ym7 hk2))) ?_;by_cases h9:w.parts[k].si r.parts[k]
  ·simp[h9,e1];refine hn (k+1) _ (Weak.to [2,3,5] [((1,0),1),((2,0),2)] (by simp)) ⟨by omega,fun i h h' hi=>?_⟩ (by omega);by_cases hik:i<k
   ·exact h8 i h h' hik
   ·have:i=k:=by omega
    subst this;exact h9
  ·simp[h9];refine hr _ ?_;have:¬ w.chk r:=fun h=>h9 ((h.2.2 h6).2.2 k hk hk2);simp[this]
 ·have:w.chk r:=⟨hr0,fun h=>absurd h6 h,fun _=>⟨hl',he.symm,fun i h h'=>h8 i h h' (by omega)⟩⟩;simp[this]
theorem zx6(m n:GMono):m=n ↔ (m.e.a=n.e.a/\m.e.b=n.e.b/\m.e.c=n.e.c)/\m.coef=n.coef:=by obtain⟨⟨a,b,c⟩,q⟩:=m;obtain⟨⟨a',b',c'⟩,q'⟩:=n;simp
theorem zzp(m n:GMono)(hm:m.coef.sm 1048576):Sp P F.jf [enc m,enc n] (.pure (.bool (decide (m=n)))):=by
 refine Sp.vz c.jf fun _=>?_;simp[g.jf];refine⟨fun h1 h2 h3=>?_,fun h=>?_⟩
 ·refine zaa (zoh m.coef n.coef (hm.mono (by omega))) rfl ?_;simp[zx6,h1,h2,h3]
 ·have hmn:m≠n:=fun e=>by obtain⟨⟨h1,h2,h3⟩,_⟩:=(zx6 m n).1 e;exact h h1 h2 h3
  simp[hmn]
theorem zdx(v:GW)(hv:v.sm 1048576):∀ w:GW,Sp P F.ak [enc v,enc w] (.pure (.bool (decide (v=w)))):=by
 revert v;refine GW.sm.ind fun v hv ih w=>?_;refine Sp.vz c.ak fun hok=>?_;simp[g.ak];refine zaa (zoh v.q w.q (hv.q.mono (by omega))) rfl ?_;by_cases h1:v.q=w.q;rotate_left
 ·have:v≠w:=fun h=>h1 (by rw[h]);simp[h1,this]
 simp[h1];refine⟨fun h2=>?_,fun h2=>?_⟩;rotate_left
 ·exact fun h=>h2 (by rw[h])
 refine⟨fun h3=>?_,fun h3=>?_⟩;rotate_left
 ·exact fun h=>h3 (by rw[h])
 refine⟨fun h4'=>?_,fun h4=>?_⟩;rotate_left
 ·exact fun h=>h4 (by rw[h])
 have h4:v.set=w.set:=UInt64.toNat_inj.1 (by omega);refine zaa (zk1 v.poly w.poly F.jf (by have:=hv.len;omega) fun x hx y _=>zzp x y (hv.poly x hx)) rfl ?_;by_cases h5:v.poly=w.poly;rotate_left
 ·have:v≠w:=fun h=>h5 (by rw[h]);simp[h5,this]
 simp[h5];refine zaa (zn3 v.parts w.parts F.ak (by have:=hv.plen;omega) fun x hx y _=>ih x hx y) rfl ?_;by_cases h6:v.parts=w.parts
 ·have:v=w:=GW.ext h1 h2 h3 h4 h5 h6;simp[this]
 ·have:v≠w:=fun h=>h6 (by rw[h]);simp[h6,this]
end Go.Ab
namespace Go.Ab
open Enc (enc)
section
variable {P:Program} {K:Ctx} {Z Z':Cz} {st st' st1 st2:St} {w w':World} {a:Act} {N:Nat} {ex:Exit} {A B:Option FA} {Post:Exit->St->Option FA->Prop} {PostI:St->Option FA->Prop}
theorem zn5{c:Callee}{ts:Array TypeId}{aq:List Opd}{f0:FuncId}{xs0:List Opd}(h:zcw P c ts aq=some (.call f0 xs0)):∃ g,c=.value g/\zah g=some (.c (.p (.fn f0 [])))/\aq=xs0:=by
 unfold zcw at h;split at h
 ·grind
 ·grind
 ·exfalso
  repeat' split at h
  all_goals first
   | cases h
   | (obtain⟨_,_,h⟩:=mapS h;cases h)
theorem za8{α : Type}{x:Option α}{f : α -> Option IOp}{f0:FuncId}{xs0:List Opd}(h:x.bind f=some (.call f0 xs0))(k:∀ y,f y≠some (.call f0 xs0)):False:=by obtain⟨y,_,h⟩:=zct h;exact k y h
theorem ze3{α : Type}{x:Option α}{f : α -> IOp}{f0:FuncId}{xs0:List Opd}(h:x.map f=some (.call f0 xs0))(k:∀ y,f y ≠ .call f0 xs0):False:=by simp_all
theorem ztk{t:TypeId}{m k:Operand}{c:Bool}{f0:FuncId}{xs0:List Opd}(h:zgb P t m k c=some (.call f0 xs0)):False:=by
 unfold zgb at h
 repeat' split at h
 all_goals first
  | exact za8 h fun _ h=>za8 h fun _ h=>za8 h fun _ h=>ze3 h fun _ h=>by cases h
  | cases h
theorem zrb{t:TypeId}{x:Operand}{lo hi mx:Option Operand}{f0:FuncId}{xs0:List Opd}(h:zfr P t x lo hi mx=some (.call f0 xs0)):False:=by
 unfold zfr at h
 repeat' split at h
 all_goals first
  | exact za8 h fun _ h=>za8 h fun _ h=>ze3 h fun _ h=>by cases h
  | cases h
theorem zvj{op:BinOp}{x y:Opd}{f0:FuncId}{xs0:List Opd}(h:zin op x y=some (.call f0 xs0)):False:=by
 unfold zin at h
 grind
theorem zti{fn:Fn}{x y:Array Operand}{f0:FuncId}{xs0:List Opd}(h:zhs fn x y=some (.call f0 xs0)):False:=by
 unfold zhs at h
 repeat' split at h
 all_goals first
  | exact ze3 h fun _ h=>by cases h
  | cases h
theorem zph{op:Op}{f0:FuncId}{xs0:List Opd}(h:zb6 P op=some (.call f0 xs0)):∃ cc h,op=.call cc/\cc.callee=.value h/\zah h=some (.c (.p (.fn f0 [])))/\za1 cc.args.toList=some xs0:=by
 cases op
 case call c =>
  obtain⟨aq,ha,h⟩:=zct h;obtain⟨g,h1,h2,rfl⟩:=zn5 h
  grind
 case lookup t m k c=>exact(ztk h).elim
 case slice=>exact(zrb h).elim
 case makeFunc=>exact(zti h).elim
 case move|assign|alloc|box|nilCheck|extract=>exact(ze3 h fun _ h=>by cases h).elim
 case pick=>exact(za8 h fun _ h=>za8 h fun _ h=>ze3 h fun _ h=>by cases h).elim
 case binOp =>
  refine(za8 h fun _ h=>za8 h fun _ h=>?_).elim;split at h
  ·grind
  ·grind
  ·exact zvj h
  ·simp_all
 case unOp =>
  refine(za8 h fun _ h=>?_).elim;split at h<;>cases h
 case convert =>
  refine(za8 h fun _ h=>?_).elim;split at h<;>cases h
 case load=>refine(za8 h fun _ h=>?_).elim;split at h<;>cases h
 case store=>refine(za8 h fun _ h=>za8 h fun _ h=>?_).elim;split at h<;>cases h
 case build =>
  simp only[zb6]at h;split at h
  ·refine(za8 h fun _ h=>za8 h fun _ h=>?_).elim;split at h
   ·exact ze3 h fun _ h=>by cases h
   ·cases h
  ·refine(za8 h fun _ h=>za8 h fun _ h=>?_).elim;split at h
   ·exact ze3 h fun _ h=>by cases h
   ·cases h
  ·cases h
 case buildSlice =>
  simp only[zb6]at h;split at h
  ·exact(za8 h fun _ h=>ze3 h fun _ h=>by cases h).elim
  ·cases h
 case makeSlice =>
  simp only[zb6]at h;split at h
  ·refine(za8 h fun _ h=>za8 h fun _ h=>za8 h fun _ h=>?_).elim;split at h<;>cases h
  ·cases h
 case fieldAddr =>
  simp only[zb6]at h;split at h
  ·split at h
   ·split at h
    ·exact(ze3 h fun _ h=>by cases h).elim
    ·cases h
   ·cases h
  ·cases h
 case field =>
  simp only[zb6]at h;split at h
  ·split at h
   ·split at h
    ·exact(ze3 h fun _ h=>by cases h).elim
    ·cases h
   ·cases h
  ·cases h
 case indexAddr =>
  simp only[zb6]at h;split at h
  ·split at h
   ·exact(za8 h fun _ h=>ze3 h fun _ h=>by cases h).elim
   ·cases h
  ·split at h
   ·exact(za8 h fun _ h=>ze3 h fun _ h=>by cases h).elim
   ·cases h
  ·cases h
 case index =>
  simp only[zb6]at h;split at h
  ·split at h
   ·exact(za8 h fun _ h=>ze3 h fun _ h=>by cases h).elim
   ·cases h
  ·exact(za8 h fun _ h=>ze3 h fun _ h=>by cases h).elim
  ·cases h
 all_goals cases h
theorem z3m{d:Option Nat}{f:FuncId}{xs:List Opd}{r:Nat}{ks vs args ks' vs':List PV}(hsp:SpU P f ks vs args ks' vs')(hxs:xs.map st.ev=.p (.mapv r)::args.map .p)(hn1:zed ks'=true)(hn2:zed vs'=true)
  (k:PostI (st.put d (.p (.tup []))) (some (zij r ks' vs'))):MOp P N ⟨d,.call f xs,none⟩ st (some (zij r ks vs)) PostI:=by
 intro ops j o K Z w a Q Kt hN hj hcc hs hA hK;obtain⟨h1,h2,h3,h4⟩:=zdz hcc;obtain⟨cc,h,hop,hf,hh,hops⟩:=zph h1;have hg:o.guard=none:=by
  cases hg:o.guard with
  | none=>rfl
  | some jb =>
   obtain⟨j,b⟩:=jb;rw[hg]at h2;simp only[zd0]at h2;split at h2<;>cases h2
 have hw:Region.wanted o (yielded ops a.tmps)=true:=by simp[Region.wanted,hg]
 have hd:d=o.dst:=h3;obtain⟨hfn,hsp⟩:=hsp;have hr:=zjx hops hs;rw[hxs]at hr;have hfr:=zap hh hs;simp only[St.ev]at hfr;have hfv:a.eval h=.func (.func f) #[] #[]:=by
  have hp:=hfr.inv_p;generalize a.eval h=F at hp ⊢;cases hp with
  | fn _ _ vals h=>cases h;rfl
 have hrun:(execOp a.eval o).run P w=.ok (.enter f ((cc.args.toList.map a.eval).toArray)) w:=by
  have:=ze2 (P:=P) (w:=w) (args:=(cc.args.toList.map a.eval).toArray) hfn;simp only[execOp,hop,resolve,hf,hfv,Deferred.ofValue,ymw,yn2,yn8,invoke];have e : #[]++cc.args.map a.eval ++ #[]=(cc.args.toList.map a.eval).toArray:=by simp[<- Array.toList_map]
  rw[e];exact this
 have hp0:PReps Z.M (.mapv r::args) (cc.args.toList.map a.eval):=AReps.to_p (by simpa using hr);generalize cc.args.toList.map a.eval=vals at hp0 hrun;obtain⟨hF,hX,es,clock,q0,q1,q2,q3,q4,q5⟩:=hA;simp only[zij]at hF hX q0
 let Mp:Nat->Option Obj:=fun b=>if b=r then w.heap[r]? else Z.M b
 have hsub:∀ b o,Z.M b=some o->Mp b=some o:=fun b o ho=>by
  simp only[Mp];rw[yl9];· exact ho
  ·rintro rfl;rw[hF.m]at ho;cases ho
 have hMp:∀ b o,Mp b=some o->w.heap[b]?=some o:=fun b o ho=>by
  simp only[Mp]at ho;split at ho
  ·rename_i hb;subst hb;exact ho
  ·exact hs.heap.mem b o ho
 have hvals:PReps Mp (.mp r ks vs::args) vals:=by
  cases hp0 with
  | cons _ _ _ _ h0 h1 =>
   cases h0;exact .cons _ _ _ _ (.mp r ks vs es clock (by simp only[Mp,ym2];exact q0) (q1.mono hsub) (q2.mono hsub) q3 q4 q5) (h1.mono hsub)
 refine(show o.wp P a w Kt Q from ?_) |> fun h=>by unfold wpOp;simp only[hj,hw,ym2];exact .inl h
 unfold Oper.wp;rw[hrun,yq0];refine(hsp w Mp r vals hMp hvals).mono ?_;rintro e w' ⟨M',rfl,p1,p2,p3,p4,p5⟩;obtain⟨es',clock',t0,t1,t2,t3,t4,t5⟩:∃ es' clock',M' r=some (.map es' clock')/\PReps M' ks' (es'.toList.map (·.key))/\PReps M' vs' (es'.toList.map (·.val))/\(es'.toList.map (·.key)).Nodup/\(∀ e∈es'.toList,e.born<clock')/\(es'.toList.map (·.born)).Nodup:=by
  cases p5 with
  | mp _ _ _ es clock m0 m1 m2 m3 m4 m5=>exact⟨es,clock,m0,m1,m2,m3,m4,m5⟩
 let M1:Nat->Option Obj:=fun b=>if b=r then none else M' b
 have hM1:∀ b o,M1 b=some o->b≠r/\M' b=some o:=fun b o h=>by
  simp only[M1]at h;split at h
  ·cases h
  ·exact⟨by assumption,h⟩
 have hcells:∀ b cur T fr,M' b=some (.cells cur T fr)->M1 b=some (.cells cur T fr):=fun b cur T fr h=>by
  simp only[M1];rw[yl9];· exact h
  ·rintro rfl;rw[t0]at h;cases h
 have hold:∀ b o,M1 b=some o->Z.M b=some o\/w.heap.size<=b:=fun b o h=>by
  obtain⟨g1,g2⟩:=hM1 b o h;rcases p3 b o g2 with h|h|h
  ·exact absurd h g1
  ·simp only[Mp]at h;rw[yl9 g1]at h;exact .inl h
  ·exact .inr h
 have hHw:HRep K Z st w':=hs.heap.world p4 fun b hb=>by subst hb;exact⟨hF.m,hF.o,hX⟩
 have hZM1:∀ b o,Z.M b=some o->M1 b=some o:=fun b o hb=>by
  have hbr:b≠r:=by rintro rfl;rw[hF.m]at hb;cases hb
  simp only[M1];rw[yl9 hbr];exact p1 b o hbr (hsub b o hb)
 have hH1:HRep K { Z with M:=M1 } st w':=by
  refine hHw.grow (Keep.refl _ _) M1 hZM1 (fun b o hb=>p2 b o (hM1 b o hb).2) (fun b o hb=>?_) (fun s g o b ho hb=>?_)
  ·rcases hold b o hb with h|h
   ·exact .inl h
   ·exact .inr (.inr (ym6 hs.heap.keep.size h))
  ·cases hm:M1 b with
   | none=>rfl
   | some y =>
    rcases hold b y hm with h|h
    ·rw[hs.heap.sep s g o b ho hb]at h;cases h
    ·have:=hs.heap.lt ho hb;omega
 have hz:ZLe Z st { Z with M:=M1 } st:=.growM hZM1;refine hK _ _ _ _ _ k (?_:StRep K { Z with M:=M1 } (st.put d (.p (.tup []))) w' _) (zem.site ?_ fun s=>za6 st d _ s)
 ·rw[hd];exact hs.put rfl hz hH1 (.p _ _ (.tup [] [] .nil)) (by subst hN;exact h4) hs.defers
 ·refine⟨⟨by simp[M1,zij],hF.o,?_⟩,hX,es',clock',p2 _ _ t0,t1.nomp hcells hn1,t2.nomp hcells hn2,t3,t4,t5⟩;exact ymk hF.lt p4.size
theorem MR.freeze{ac:AC}{t r:Nat}{ks vs:List PV}(ht:st.get t=.p (.mapv r))(k:MR P N ac (st.put (some t) (.p (.mp r ks vs))) none Post):MR P N ac st (some (zij r ks vs)) Post:=by
 intro code hc K Z w a Q hN hs hA hQ;obtain⟨hF,hX,es,clock,q0,q1,q2,q3,q4,q5⟩:=hA;simp only[zij]at hF hX q0
 let M1:Nat->Option Obj:=fun b=>if b=r then w.heap[r]? else Z.M b
 have hsub:∀ b o,Z.M b=some o->M1 b=some o:=fun b o ho=>by
  simp only[M1];rw[yl9];· exact ho
  ·rintro rfl;rw[hF.m]at ho;cases ho
 have hH1:HRep K { Z with M:=M1 } st w:=by
  refine hs.heap.grow (Keep.refl _ _) M1 hsub (fun b o hb=>?_) (fun b o hb=>?_) (fun s g o b ho hb=>?_)
  ·simp only[M1]at hb;split at hb
   ·rename_i hbr;subst hbr;exact hb
   ·exact hs.heap.mem b o hb
  ·simp only[M1]at hb;split at hb
   ·rename_i hbr;subst hbr;exact .inr hX
   ·exact .inl hb
  ·simp only[M1];rw[yl9];· exact hs.heap.sep s g o b ho hb
   ·rintro rfl;exact hF.o s g o ho hb
 have hz:ZLe Z st { Z with M:=M1 } st:=.growM hsub;have hs1:StRep K { Z with M:=M1 } (st.put (some t) (.p (.mp r ks vs))) w a:=by
  refine⟨fun u=>?_,hs.defers,hs.size,hH1.of_site fun i=>za6 _ _ _ i⟩;rw[zd4];split
  ·rename_i hu;cases hu;have h0:=hs.slots t;rw[ht]at h0;have h0:=h0.inv_p;generalize a.tmps.getD t Go.undef=X at h0;cases h0;exact .p _ _ (.mp r ks vs es clock (by simp only[M1,ym2];exact q0) (q1.mono hsub) (q2.mono hsub) q3 q4 q5)
  ·exact ARep.mono (zbl (fun i=>za6 _ _ _ i) _) (ARep.mono hz (hs.slots u))
 exact k code hc K _ w a Q hN hs1 trivial hQ
theorem Sp.of_mr{f:FuncId}{args:List PV}{res:RV}{n np:Nat}{b:GC}{rs:List (Nat × Option Nat)}(hc:zac P f=some ⟨n,np,b.er,rs⟩)(hn:args.length<=n)
  (h:MR P n b.er (zey args) none fun ex s _=>retP rs res ex s):Sp P f args res:=by
 unfold zac at hc;split at hc
 ·rename_i fn hf;split at hc
  ·rename_i hname;split at hc
   ·rename_i c hb;split at hc
    ·rename_i bd rs' h1 h2;simp only[ym1,FnC.mk.injEq]at hc;obtain⟨rfl,_,rfl,rfl⟩:=hc;refine⟨⟨fn,hf,by rw[hb];rfl,hname⟩,fun w M vals hM hv=>?_⟩;refine calls_of_wp hf hb ?_;refine h _ h1 ⟨w,M,fun _=>False,fn.ntmps⟩ _ w _ _ rfl (zqx hM hv hn) trivial (fun ex st' A' Z' w' a' hp hs _=>?_);have hr:(ex=.ret\/ex=.normal)/\∃ vs,zbd st' rs'=some vs/\ResOk st' (resOf vs) res:=by
      have key:(ex=.ret\/ex=.normal)/\∃ vs,zbd st' rs'=some vs/\resP st' (resOf vs) res:=by
       cases ex with
       | ret=>exact⟨.inl rfl,hp⟩
       | normal=>exact⟨.inr rfl,hp⟩
       | _=>exact hp.elim
      obtain⟨k1,vs,r3,r4⟩:=key;refine⟨k1,vs,r3,?_⟩;unfold resP at r4;split at r4
      ·exact .pure _ _ r4
      ·split at r4
       ·rename_i sz es s' g off len hv;obtain⟨o,h1,rfl,h2,rfl,h4⟩:=r4;rw[hv];exact .fresh _ _ _ _ _ h1 h2 h4
       ·rename_i hv;rw[hv,r4];exact .nil _
       ·exact r4.elim
      ·exact r4.elim
     obtain⟨hex,vs,hvs,hres⟩:=hr
     have hfin:a'.defers=[]/\∃ v,(results fn a'.tmps).run P w'=.ok v w'/\∃ x M',Ending.returned v=.returned x/\(∀ b o,M b=some o->M' b=some o)/\(∀ b o,M' b=some o->w'.heap[b]?=some o) /\
       (∀ b o,M' b=some o->M b=some o\/w.heap.size<=b)/\Keep w w' (fun _=>False)/\RRep M' w w' res x:=by
      obtain⟨xs,e1,e2⟩:=zjt hs h2 hvs;obtain⟨M',m1,m2,m3,m4,m5⟩:=zp5 hs.heap e2.resOf hres;refine⟨hs.defers,_,?_,_,M',rfl,m1,m2,m3,m4,m5⟩;unfold results;rw[ypm];simp only[ymw,map_eq_pure_bind,yn2];exact congrArg (fun r=>(Result.andThen r fun a w'=>Result.ok a.toArray w').andThen fun(a:Array Value) w'=>Result.ok (if h:a.size=1 then a[0]else Value.tuple a) w') e1
     rcases hex with rfl|rfl
     ·exact hfin
     ·exact hfin
    ·cases hc
   ·cases hc
  ·cases hc
 ·cases hc
end
section
variable {P:Program} {K:Ctx} {st st' st1:St} {N:Nat} {A B:Option FA} {Post:Exit->St->Option FA->Prop} {PostI:St->Option FA->Prop}
theorem MR.gseq{a b:GC}(h:vm P N (fun ex s=>(ex=.normal->MR P N b.er s A Post)/\(ex ≠ .normal->Post ex s A)) [.code a] st):MR P N (GC.seq a b).er st A Post :=
 .seq (.of_vm h)
theorem MR.gseq'{a b:GC}(h:MR P N a.er st A fun ex s B=>(ex=.normal->MR P N b.er s B Post)/\(ex ≠ .normal->Post ex s B)):MR P N (GC.seq a b).er st A Post:=.seq h
theorem MR.gcond{a b:GC}{c:Opd}{dl:List Nat}{t:Bool}(hv:st.ev c=.p (.bool t))(h1:t=true->MR P N a.er (st.drop dl) A Post)(h2:t=false->MR P N b.er (st.drop dl) A Post):MR P N (GC.cond c dl a b).er st A Post:=by
 refine .cond hv ?_;cases t with
 | true=>exact .weak (zir _ _) (h1 rfl)
 | false=>exact .weak (zir _ _) (h2 rfl)
theorem MR.gregD{ops:List Ins}{pre dead:List (List Nat)}{i:Ins}(ho:ops.getLast?=some i)(hl:z31 pre ops.dropLast.length=true)
  (h:vm P N (fun ex s=>ex=.normal->MOp P N i s A fun s B=>Post .normal s B) [.insD ops.dropLast [] pre dead] st):MR P N (GC.regD ops pre dead).er st A Post:=by
 obtain⟨gs,s1,s2,r1,r2,r3,r4⟩:=zcy _ (ym9 _) h;have e:ops=ops.dropLast++[i]:=by
  have hne:ops≠[]:=by rintro rfl;simp at ho
  rw[List.getLast?_eq_getLast hne]at ho;rw[<- Option.some.inj ho];exact(List.dropLast_concat_getLast hne).symm
 show MR P N (.regD ops pre) st A Post;rw[e];exact .regDL r1 (by simpa using r2) hl (.weak r3 (r4 rfl))
theorem MR.greg{ops:List Ins}{dead:List (List Nat)}(h:MIns P N ops st A fun s B=>Post .normal s B):MR P N (GC.reg ops dead).er st A Post:=.reg h
theorem zqj(n:Nat)(dead:List (List Nat)){ops:List Ins}(h:Go.Ab.vm P N (fun ex s=>ex=.normal->MIns P N (ops.drop n) s A PostI) [.ins (ops.take n) dead] st):MIns P N ops st A PostI:=by
 have:=MIns.vm h
 rwa[yp3]at this
theorem MIns.cons{i:Ins}{is:List Ins}(h:MOp P N i st A fun s B=>MIns P N is s B PostI):MIns P N (i::is) st A PostI:=h
theorem MR.gblk{b:GC}{id:Nat}(h:MR P N b.er st A fun ex s B=>Post (exB id ex) s B):MR P N (GC.blk id b).er st A Post:=.blk h
theorem MR.gloop{b:GC}{I:Nat->St->Option FA->Prop}(n:Nat)(hI:I n st A)(step:∀ n st A,I n st A->MR P N b.er st A fun ex s B=>(ex=.normal->∃ m,m<n/\I m s B)/\(ex ≠ .normal->Post ex s B)):MR P N (GC.loop b).er st A Post:=.loop n hI step
theorem MR.gext{id:Nat}(h:Post (.exit id) st A):MR P N (GC.ext id).er st A Post:=.ext h
theorem MR.gnop(h:Post .normal st A):MR P N GC.nop.er st A Post:=.nop h
attribute [simp] zed PV.nomp
end
section
variable {κ α : Type} [Enc κ] [Enc α] [DecidableEq κ]
def mget(e : κ):List (κ × α)->Option α
 | []=>none
 | (e',c)::L=>if e'=e then some c else mget e L
def mset(e : κ)(c : α):List (κ × α)->List (κ × α)
 | []=>[(e,c)]
 | (e',c')::L=>if e'=e then(e',c)::L else(e',c')::mset e c L
def mks(L:List (κ × α)):List PV:=L.map fun p=>enc p.1
def mvs(L:List (κ × α)):List PV:=L.map fun p=>enc p.2
theorem zkl{kc : κ -> List PV}(hk:∀ e,enc e=.agg (kc e))(heq:∀ e e',eqI (kc e) (kc e')=true ↔ e=e')(e : κ):∀ L:List (κ × α),zbv (kc e) (mks L) (mvs L)=(mget e L).map enc
 | []=>rfl
 | (e',c)::L=>by
  simp only[mks,mvs,ymi,hk,zbv,heq,mget];split
  ·rfl
  ·have:=zkl hk heq e L;simp only[mks,mvs,hk]at this;exact this
theorem zmu{kc : κ -> List PV}(hk:∀ e,enc e=.agg (kc e))(heq:∀ e e',eqI (kc e) (kc e')=true ↔ e=e')(e : κ)(c : α):∀ L:List (κ × α),zcj (kc e) (enc c) (mks L) (mvs L)=(mks (mset e c L),mvs (mset e c L))
 | []=>by simp[mks,mvs,zcj,mset,hk]
 | (e',c')::L=>by
  have ih:=zmu hk heq e c L;simp only[mks,mvs,hk]at ih;simp only[mks,mvs,ymi,hk,zcj,heq,mset];split
  ·rfl
  ·simp only[ih,ymi]
theorem zmr(e : κ)(c : α)(e' : κ):∀ L:List (κ × α),mget e' (mset e c L)=if e=e' then some c else mget e' L
 | []=>rfl
 | (e1,c1)::L=>by
  have ih:=zmr e c e' L;by_cases h:e1=e
  ·subst h;simp only[mset,ym2,mget];by_cases h2:e1=e'
   ·simp[h2]
   ·simp[h2]
  ·simp only[mset,yl9 h,mget,ih];by_cases h2:e1=e'
   ·subst h2;simp[ynr h]
   ·simp[h2]
theorem zsn(e : κ)(c : α):∀ L:List (κ × α),(mset e c L).map (·.1)=if e∈L.map (·.1)then L.map (·.1)else L.map (·.1)++[e]
 | []=>rfl
 | (e1,c1)::L=>by
  have ih:=zsn e c L;simp only[mset];split
  ·rename_i h;subst h;simp
  ·rename_i h;simp only[ymi,ih,ym3,ynr h,false_or];split<;>rfl
theorem zxg{e : κ}{c : α}:∀ {L:List (κ × α)},mget e L=some c->(e,c)∈L
 | (e1,c1)::L,h=>by
  simp only[mget]at h;split at h
  ·rename_i h1;subst h1;cases h;simp
  ·exact ymr _ (zxg h)
theorem zzd(e : κ)(c : α){L:List (κ × α)}(h:(L.map (·.1)).Nodup):((mset e c L).map (·.1)).Nodup:=by
 rw[zsn];split
 ·exact h
 ·rename_i he;exact yqm.2 ⟨h,by simp,fun a ha b hb=>by simp at hb;subst hb;rintro rfl;exact he ha⟩
end
end Go.Ab
