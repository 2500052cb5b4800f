/- Lemmas for the law AmbiguityCounts, part 21. No conditions. -/
import Derived.Test.YtcemegnnejaahaaGreatDoorDP20
set_option maxRecDepth 100000
set_option maxHeartbeats 4000000
set_option linter.all false
namespace Go.Ab
open Enc (enc)
attribute [local simp] zai Opd.slots
theorem zlj(l:List GW)(f:FuncId)(caps:List PV)(p:GW->Bool)(hl:l.length<=4611686018427387904)(hf:∀ x∈l,Sp P f (enc x::caps) (.pure (.bool (p x)))) :
  Sp P F.ku [.sl (ens l),.fn f caps] (.pure (.int .i64 (idxI p l))):=by
 refine Sp.vz c.ku fun _=>?_;simp[g.ku]
 refine zaj (S:=fun k:Nat=>mkSt [(0,.p (.sl (ens l))),(1,.p (.fn f caps)),(7,.p (.int .i64 l.length)),(8,.p (.int .i64 k))] []) (I:=fun k=>k<=l.length/\∀ x∈l.take k,p x=false) (m:=fun k=>l.length - k) 0
  (Weak.to [0,1,7,8] [] (by simp)) ⟨by omega,by simp⟩ ?_
 rintro k ⟨h1,h2⟩ R hn hr hx;have e1:=i64s k;simp[g.qt,mkSt];refine⟨fun hk=>?_,fun hk=>hx _ _ ?_⟩
 ·refine zad hk ?_
  try simp
  refine zaa (hf l[k] (yfi hk)) (zb5 (by simp) (zfm _ _)) ?_;rcases yge (p l[k])with h3|h3
  ·simp[h3];refine hr _ ?_;simp[zrw hk h2 h3]
  ·simp[h3,e1];refine hn (k+1) _ (Weak.to [0,1,7,8] [] (by simp)) ⟨by omega,fun x hx=>?_⟩ (by omega);rw[yfu hk]at hx;rcases yfk.1 hx with hx|hx
   ·exact h2 x hx
   ·simp at hx;rw[hx];exact h3
 ·have:k=l.length:=by omega
  subst this;simp[zlk (p:=p) (l:=l) (by simpa using h2)]
theorem zl8(l:List GW)(f:FuncId)(caps:List PV)(p:GW->Bool)(hl:l.length<=4611686018427387904)(hf:∀ x∈l,Sp P f (enc x::caps) (.pure (.bool (p x)))) :
  Sp P F.ki [.sl (ens l),.fn f caps] (.pure (.bool (l.any p))):=by
 refine Sp.vz c.ki fun _=>?_;simp[g.ki];refine zaa (zlj l f caps p hl hf) rfl ?_;simp[zhq]
theorem zjc(l:List GArc)(f:FuncId)(caps:List PV)(p:GArc->Bool)(hl:l.length<=4611686018427387904)(hf:∀ x∈l,Sp P f (enc x::caps) (.pure (.bool (p x)))) :
  Sp P F.fv [.sl (ens l),.fn f caps] (.pure (.int .i64 (idxI p l))):=by
 refine Sp.vz c.fv fun _=>?_;simp[g.fv]
 refine zaj (S:=fun k:Nat=>mkSt [(0,.p (.sl (ens l))),(1,.p (.fn f caps)),(7,.p (.int .i64 l.length)),(8,.p (.int .i64 k))] []) (I:=fun k=>k<=l.length/\∀ x∈l.take k,p x=false) (m:=fun k=>l.length - k) 0
  (Weak.to [0,1,7,8] [] (by simp)) ⟨by omega,by simp⟩ ?_
 rintro k ⟨h1,h2⟩ R hn hr hx;have e1:=i64s k;simp[g.qc,mkSt];refine⟨fun hk=>?_,fun hk=>hx _ _ ?_⟩
 ·refine zad hk ?_
  try simp
  refine zaa (hf l[k] (yfi hk)) (zb5 (by simp) (zfm _ _)) ?_;rcases yge (p l[k])with h3|h3
  ·simp[h3];refine hr _ ?_;simp[zrw hk h2 h3]
  ·simp[h3,e1];refine hn (k+1) _ (Weak.to [0,1,7,8] [] (by simp)) ⟨by omega,fun x hx=>?_⟩ (by omega);rw[yfu hk]at hx;rcases yfk.1 hx with hx|hx
   ·exact h2 x hx
   ·simp at hx;rw[hx];exact h3
 ·have:k=l.length:=by omega
  subst this;simp[zlk (p:=p) (l:=l) (by simpa using h2)]
theorem zlm(l:List GArc)(f:FuncId)(caps:List PV)(p:GArc->Bool)(hl:l.length<=4611686018427387904)(hf:∀ x∈l,Sp P f (enc x::caps) (.pure (.bool (p x)))) :
  Sp P F.ff [.sl (ens l),.fn f caps] (.pure (.bool (l.any p))):=by
 refine Sp.vz c.ff fun _=>?_;simp[g.ff];refine zaa (zjc l f caps p hl hf) rfl ?_;simp[zhq]
theorem zjq(l m:List GMono)(f:FuncId)(hl:l.length<=4611686018427387904)(hf:∀ x∈l,∀ y∈m,Sp P f [enc x,enc y] (.pure (.bool (decide (x=y))))) :
  Sp P F.jv [.sl (ens l),.sl (ens m),.fn f []] (.pure (.bool (decide (l=m)))):=by
 refine Sp.vz c.jv fun _=>?_;simp[g.jv];refine⟨fun h=>?_,fun h=>fun he=>h (by rw[he])⟩;have hlen:l.length=m.length:=by omega
 refine zaj (S:=fun k:Nat=>mkSt [(1,.p (.sl (ens m))),(2,.p (.fn f [])),(15,.p (.sl (ens l))),(16,.p (.int .i64 l.length)),(17,.p (.int .i64 k))] []) (I:=fun k=>k<=l.length/\l.take k=m.take k) (m:=fun k=>l.length - k) 0
  (Weak.to [1,2,15,16,17] [] (by simp)) ⟨by omega,by simp⟩ ?_
 rintro k ⟨h1,h2⟩ R hn hr hx;have e1:=i64s k;simp[g.qd,mkSt];refine⟨fun hk=>?_,fun hk=>hx _ _ ?_⟩
 ·have hk2:k<m.length:=by omega
  have bad:l[k]≠m[k]->l≠m:=fun h h'=>by subst h';exact h rfl
  refine zad hk ?_
  try simp
  refine zad hk2 ?_
  try simp
  refine zaf (hf l[k] (yfi hk) m[k] (yfi hk2)) ?_;by_cases h6:l[k]=m[k]
  ·simp[h6,e1];exact hn (k+1) _ (Weak.to [1,2,15,16,17] [] (by simp)) ⟨by omega,by rw[yfu hk,yfu hk2,h2,h6]⟩ (by omega)
  ·have h8:l≠m:=bad h6;simp[h6];exact hr _ (by simp[h8])
 ·have h3:l=m:=by rw[<- List.take_length (l:=l),<- List.take_length (l:=m),<- hlen,show l.length=k by omega];exact h2
  simp[h3]
theorem zl9(l m:List GW)(f:FuncId)(hl:l.length<=4611686018427387904)(hf:∀ x∈l,∀ y∈m,Sp P f [enc x,enc y] (.pure (.bool (decide (x=y))))) :
  Sp P F.jw [.sl (ens l),.sl (ens m),.fn f []] (.pure (.bool (decide (l=m)))):=by
 refine Sp.vz c.jw fun _=>?_;simp[g.jw];refine⟨fun h=>?_,fun h=>fun he=>h (by rw[he])⟩;have hlen:l.length=m.length:=by omega
 refine zaj (S:=fun k:Nat=>mkSt [(1,.p (.sl (ens m))),(2,.p (.fn f [])),(15,.p (.sl (ens l))),(16,.p (.int .i64 l.length)),(17,.p (.int .i64 k))] []) (I:=fun k=>k<=l.length/\l.take k=m.take k) (m:=fun k=>l.length - k) 0
  (Weak.to [1,2,15,16,17] [] (by simp)) ⟨by omega,by simp⟩ ?_
 rintro k ⟨h1,h2⟩ R hn hr hx;have e1:=i64s k;simp[g.qe,mkSt];refine⟨fun hk=>?_,fun hk=>hx _ _ ?_⟩
 ·have hk2:k<m.length:=by omega
  have bad:l[k]≠m[k]->l≠m:=fun h h'=>by subst h';exact h rfl
  refine zad hk ?_
  try simp
  refine zad hk2 ?_
  try simp
  refine zaf (hf l[k] (yfi hk) m[k] (yfi hk2)) ?_;by_cases h6:l[k]=m[k]
  ·simp[h6,e1];exact hn (k+1) _ (Weak.to [1,2,15,16,17] [] (by simp)) ⟨by omega,by rw[yfu hk,yfu hk2,h2,h6]⟩ (by omega)
  ·have h8:l≠m:=bad h6;simp[h6];exact hr _ (by simp[h8])
 ·have h3:l=m:=by rw[<- List.take_length (l:=l),<- List.take_length (l:=m),<- hlen,show l.length=k by omega];exact h2
  simp[h3]
theorem zoy(l:List GArc)(hl:l.length<=2147483648):Sp P F.bi [.sl (ens l)] (.fresh 11 (ens l)):=by
 cases l with
 | nil =>
  refine Sp.nilcase ?_ ?_
  ·refine Sp.vz c.bi fun _=>?_;simp[g.bi]
  ·refine Sp.vz c.bi fun _=>?_;simp[g.bi,LIM]
 | cons x l =>
  refine Sp.vz c.bi fun _=>?_;simp at hl;simp[g.bi,LIM,hl]
theorem ztv(x:Int):Sp P F.kw [.int .i64 x] (.pure (.bool false)):=by refine Sp.vz c.kw fun _=>?_;simp[g.kw]
theorem zi1(x y:Int):Sp P F.go [.int .i64 x,.int .i64 y] (.pure (.int .i64 (cmpI x y))):=by refine Sp.vz c.go fun _=>?_;simp[g.go];refine zaa (ztv x) rfl ?_;simp;refine zaa (ztv y) rfl ?_;simp[cmpI];refine⟨fun _ _=>by split<;>omega,fun _=>⟨fun _=>by(repeat' split)<;>omega,fun _=>by(repeat' split)<;>omega⟩⟩
def zhh:List Int->Int
 | []=>0
 | x::r=>if x=0 then zhh r else x
theorem zr0{l:List Int}:∀ {k:Nat},(∀ x∈l.take k,x=0)->zhh l=zhh (l.drop k):=by
 intro k
 induction l generalizing k with
 | nil=>simp
 | cons x l ih =>
  cases k with
  | zero=>simp
  | succ k =>
   intro h;have:x=0:=h x (by simp);simp only[zhh,this,yf2,yjd];exact ih fun y hy=>h y (by simp[hy])
theorem z3h(l:List Int)(hl:l.length<=4611686018427387904):Sp P F.km [.sl (ens l)] (.pure (.int .i64 (zhh l))):=by
 refine Sp.vz c.km fun _=>?_;simp[g.km]
 refine zaj (S:=fun k:Nat=>mkSt [(3,.p (.int .i64 0)),(6,.p (.sl (ens l))),(7,.p (.int .i64 l.length)),(8,.p (.int .i64 k))] []) (I:=fun k=>k<=l.length/\∀ x∈l.take k,x=0) (m:=fun k=>l.length - k) 0
  (Weak.to [3,6,7,8] [] (by simp)) ⟨by omega,by simp⟩ ?_
 rintro k ⟨h1,h2⟩ R hn hr hx;have e1:=i64s k;have hd:=zr0 h2;simp[g.qp,mkSt];refine⟨fun hk=>?_,fun hk=>hx _ _ ?_⟩
 ·have hdk:l.drop k=l[k]::l.drop (k+1):=yho hk;rw[hdk]at hd;refine zad hk ?_;simp[e1];refine⟨fun h3=>?_,fun h3=>?_⟩
  ·refine hn (k+1) _ (Weak.to [3,6,7,8] [] (by simp)) ⟨by omega,fun x hx=>?_⟩ (by omega);rw[yfu hk]at hx;rcases yfk.1 hx with hx|hx
   ·exact h2 x hx
   ·simp at hx;rw[hx];exact h3
  ·refine hr _ ?_;simp[zhh,h3]at hd;simp[hd]
 ·have:k=l.length:=by omega
  subst this;simp[zhh]at hd;simp[hd]
theorem zm9(l m:List UInt32)(hl:l.length<=4611686018427387904):Sp P F.j8 [.sl (ens l),.sl (ens m)] (.pure (.bool (decide (l=m)))):=by
 refine Sp.vz c.j8 fun _=>?_;simp[g.j8];refine⟨fun h=>?_,fun h=>fun he=>h (by rw[he])⟩;have hlen:l.length=m.length:=by omega
 refine zaj (S:=fun k:Nat=>mkSt [(0,.p (.sl (ens l))),(1,.p (.sl (ens m))),(12,.p (.int .i64 l.length)),(13,.p (.int .i64 k))] []) (I:=fun k=>k<=l.length/\l.take k=m.take k) (m:=fun k=>l.length - k) 0
  (Weak.to [0,1,12,13] [] (by simp)) ⟨by omega,by simp⟩ ?_
 rintro k ⟨h1,h2⟩ R hn hr hx;have e1:=i64s k;simp[g.qk,mkSt];refine⟨fun hk=>?_,fun hk=>hx _ _ ?_⟩
 ·have hk2:k<m.length:=by omega
  have bad:l[k]≠m[k]->l≠m:=fun h h'=>by subst h';exact h rfl
  refine zad hk ?_;refine zad hk2 ?_;simp[e1];refine⟨fun h6=>?_,fun h6=>?_⟩
  ·have h7:l[k]=m[k]:=UInt32.toNat_inj.1 (by omega);exact hn (k+1) _ (Weak.to [0,1,12,13] [] (by simp)) ⟨by omega,by rw[yfu hk,yfu hk2,h2,h7]⟩ (by omega)
  ·have h8:l≠m:=bad fun h=>h6 (by rw[h]);exact hr _ (by simp[h8])
 ·have h3:l=m:=by rw[<- List.take_length (l:=l),<- List.take_length (l:=m),<- hlen,show l.length=k by omega];exact h2
  simp[h3]
theorem zmj(x y:GRat)(hx:x.sm 1073741824):Sp P F.fy [enc x,enc y] (.pure (.bool (decide (x=y)))):=by
 refine Sp.vz c.fy fun _=>?_;simp[g.fy];have key:∀ (x y:GRat),x=y ↔ x.neg=y.neg/\x.num=y.num/\x.den=y.den:=by intro x y;cases x;cases y;simp
 refine⟨fun h1=>?_,fun h1=>?_⟩
 ·refine zaa (zm9 x.num y.num (by have:=hx.1;omega)) rfl ?_;by_cases h2:x.num=y.num
  ·simp[h2];refine zaa (zm9 x.den y.den (by have:=hx.2;omega)) rfl ?_;simp[key x y,h1,h2]
  ·simp[key x y,h2]
 ·simp[key x y,h1]
theorem zmp(e:Ex)(h:(-1000<e.a/\e.a<1000)/\(-1000<e.b/\e.b<1000) /\ -1000<e.c/\e.c<1000):Sp P F.ia [enc e] (.pure (.int .i64 (e.a+e.b+e.c))):=by have e1:IntKind.i64.wrap e.a=e.a:=i64w (by omega) (by omega);have e2:IntKind.i64.wrap (e.a+e.b)=e.a+e.b:=i64w (by omega) (by omega);have e3:IntKind.i64.wrap (e.a+e.b+e.c)=e.a+e.b+e.c:=i64w (by omega) (by omega);refine Sp.vz c.ia fun _=>?_;simp[g.ia];refine zbr fun R hn hr hx=>?_;simp[g.ma,e1];refine hn _ ?_;clear hn hr hx;refine zbr fun R hn hr hx=>?_;simp[g.ma,e2];refine hn _ ?_;clear hn hr hx;refine zbr fun R hn hr hx=>?_;simp[g.ma,e3];refine hn _ ?_;clear hn hr hx;refine zbr fun R hn hr hx=>?_;simp[g.ma];refine hx _ _ ?_;simp
theorem zpx(d e:Ex):Sp P F.gz [enc d,enc e] (.pure (.int .i64 (e.cmp d))):=by
 refine Sp.vz c.gz fun _=>?_;simp[g.gz];refine zbr fun R hn hr hx=>?_;simp[g.l9];refine zaa (zi1 e.a d.a) rfl ?_;simp;refine⟨fun h=>?_,fun h=>?_⟩;rotate_left
 ·refine hr _ ?_;simp;unfold cmpI at h ⊢;unfold Ex.cmp
  (repeat' split)<;>first|rfl|omega|simp_all
 refine hn _ ?_;clear hn hr hx;refine zbr fun R hn hr hx=>?_;simp[g.l9];refine zaa (zi1 e.b d.b) rfl ?_;simp;refine⟨fun h2=>?_,fun h2=>?_⟩;rotate_left
 ·refine hr _ ?_;simp;unfold cmpI at h h2 ⊢;unfold Ex.cmp
  (repeat' split)<;>first|rfl|omega|simp_all
 refine hn _ ?_;clear hn hr hx;refine zbr fun R hn hr hx=>?_;simp[g.l9];refine zaa (zi1 e.c d.c) rfl ?_;simp;refine⟨fun h3=>?_,fun h3=>?_⟩;rotate_left
 ·refine hr _ ?_;simp;unfold cmpI at h h2 h3 ⊢;unfold Ex.cmp
  (repeat' split)<;>first|rfl|omega|simp_all
 refine hn _ ?_;clear hn hr hx;refine zbr fun R hn hr hx=>?_;simp[g.l9];refine hx _ _ ?_;simp;unfold cmpI at h h2 h3;unfold Ex.cmp
 (repeat' split)<;>first|rfl|omega|simp_all
theorem z1s(m:GMono)(hm:m.coef.sm 1048576):Sp P F.kz [enc m] (.pure (.bool m.ok)):=by
 have bad:(¬ (0<=m.e.a/\m.e.a<=5)\/¬ (0<=m.e.b/\m.e.b<=5)\/¬ (0<=m.e.c/\m.e.c<=5))->m.ok=false:=by
  intro h;have:m.e.ok=false:=by simp only[Ex.ok,decide_eq_false_iff_not];omega
  simp[GMono.ok,this]
 refine Sp.vz c.kz fun _=>?_;simp[g.kz];refine zbr fun R hn hr hx=>?_;by_cases ha:0<=m.e.a;rotate_left
 ·simp[g.cj,show m.e.a<0 by omega];refine hr _ ?_;simp[bad (by omega)]
 by_cases ha2:m.e.a<=5;rotate_left
 ·simp[g.cj,show ¬ m.e.a<0 by omega,show 5<m.e.a by omega];refine hr _ ?_;simp[bad (by omega)]
 simp[g.cj,show ¬ m.e.a<0 by omega,show ¬ 5<m.e.a by omega];refine hn _ ?_;clear hn hr hx;refine zbr fun R hn hr hx=>?_;by_cases hb:0<=m.e.b;rotate_left
 ·simp[g.cj,show m.e.b<0 by omega];refine hr _ ?_;simp[bad (by omega)]
 by_cases hb2:m.e.b<=5;rotate_left
 ·simp[g.cj,show ¬ m.e.b<0 by omega,show 5<m.e.b by omega];refine hr _ ?_;simp[bad (by omega)]
 simp[g.cj,show ¬ m.e.b<0 by omega,show ¬ 5<m.e.b by omega];refine hn _ ?_;clear hn hr hx;refine zbr fun R hn hr hx=>?_;by_cases hc:0<=m.e.c;rotate_left
 ·simp[g.cj,show m.e.c<0 by omega];refine hr _ ?_;simp[bad (by omega)]
 by_cases hc2:m.e.c<=5;rotate_left
 ·simp[g.cj,show ¬ m.e.c<0 by omega,show 5<m.e.c by omega];refine hr _ ?_;simp[bad (by omega)]
 simp[g.cj,show ¬ m.e.c<0 by omega,show ¬ 5<m.e.c by omega];refine hn _ ?_;clear hn hr hx;refine zbr fun R hn hr hx=>?_;simp[g.cj];refine hx _ _ ?_;clear hn hr hx;simp;refine zaa (zmp m.e (by omega)) rfl ?_;simp;refine⟨fun hd=>?_,fun hd=>?_⟩
 ·have hok:m.e.ok=true:=by simp only[Ex.ok,decide_eq_true_eq];omega
  refine zaa (zkn m.coef (hm.mono (by omega))) rfl ?_;rcases yge m.coef.valid with hv|hv
  ·simp[hv];refine zaa (zjx m.coef (hm.mono (by omega))) rfl ?_;simp[GMono.ok,hok,hv,zkl]
  ·simp[hv,GMono.ok]
 ·have hok:m.e.ok=false:=by simp only[Ex.ok,decide_eq_false_iff_not];omega
  simp[GMono.ok,hok]
theorem zpv(p:List GMono)(hp:psm p 1048576)(hl:p.length<=1073741824):Sp P F.gv [.sl (ens p)] (.pure (.bool (decide (PVal p)))):=by
 refine Sp.vz c.gv fun _=>?_;simp[g.gv]
 refine zaj (S:=fun k:Nat=>mkSt [(0,.p (.sl (ens p))),(5,.p (.sl (ens p))),(6,.p (.int .i64 p.length)),(7,.p (.int .i64 k))] []) (I:=fun k=>k<=p.length/\∀ i,(h:i<p.length)->i<k->p[i].ok=true/\(0<i->p[i].e.cmp (p[i - 1]'(by omega)).e<0)) (m:=fun k=>p.length - k) 0
  (Weak.to [0,5,6,7] [] (by simp)) ⟨by omega,fun i h h0=>by omega⟩ ?_
 rintro k ⟨h1,h2⟩ R hn hr hx;have e3:=i64s k;simp[g.qr,mkSt];refine⟨fun hk=>?_,fun hk=>hx _ _ ?_⟩
 ·have bad:¬ (p[k].ok=true/\(0<k->p[k].e.cmp (p[k - 1]'(by omega)).e<0))->decide (PVal p)=false:=fun h=>decide_eq_false fun hv=>h (hv k hk);refine zad hk ?_
  try simp
  refine zaf (z1s p[k] (hp _ (yfi hk))) ?_;have step:p[k].ok=true->(0<k->p[k].e.cmp (p[k - 1]'(by omega)).e<0)->∀ i,(h:i<p.length)->i<k+1->p[i].ok=true/\(0<i->p[i].e.cmp (p[i - 1]'(by omega)).e<0):=by
   intro a b i h hi;by_cases hik:i<k
   ·exact h2 i h hik
   ·have:i=k:=by omega
    subst this;exact⟨a,b⟩
  rcases yge p[k].ok with h3|h3;rotate_left
  ·simp[h3];refine hr _ ?_;simp;simpa using bad (by simp[h3])
  by_cases h0:0<k;rotate_left
  ·have:k=0:=by omega
   subst this;simp[h3];refine hn 1 _ (Weak.to [0,5,6,7] [] (by simp)) ⟨by omega,step h3 (by omega)⟩ (by omega)
  have e1:IntKind.i64.wrap ((k:Int) - 1)=((k - 1:Nat):Int):=by rw[i64w (by omega) (by omega)];omega
  have e2:0<(k:Int):=by omega
  have hk1:k - 1<p.length:=by omega
  simp[h3,e1,h0];refine zad hk1 ?_
  try simp
  refine zaf (zpx p[k - 1].e p[k].e) ?_;by_cases h4:p[k].e.cmp p[k - 1].e<0
  ·simp[show ¬ (0<=p[k].e.cmp p[k - 1].e) by omega,e3];refine hn (k+1) _ (Weak.to [0,5,6,7] [] (by simp)) ⟨by omega,step h3 (fun _=>h4)⟩ (by omega)
  ·simp[show 0<=p[k].e.cmp p[k - 1].e by omega];refine hr _ ?_;simp;simpa using bad (fun h=>h4 (h.2 h0))
 ·have:PVal p:=fun i h=>h2 i h (by omega);simp[this]
theorem zpu(p:List GMono)(hp:psm p 1048576)(hl:p.length<=1073741824):Sp P F.g9 [.sl (ens p)] (.pure (.sl (ens (pv p)))):=by
 refine Sp.vz c.g9 fun _=>?_;simp[g.g9];refine zaa (zpv p hp hl) rfl ?_;by_cases h:PVal p
 ·simp[h,pv]
 ·simp[h,pv]
def gr0:GRat:=⟨false,[],[]⟩
def gw0:GW:=.mk gr0 0 false 0 [] []
def GW.si(k:Int)(w:GW):Prop:=w.parts=[]/\(k≠1->k≠3->w.q=gr0)/\(k≠2->w.inf=false/\w.cost=0)/\(k≠4->w.set=0)/\(k≠5->w.poly=[]) /\
 (k=1->w.q.valid=true)/\(k=2->0<=w.cost/\w.cost<=1099511627776/\(w.inf=true->w.cost=0))/\(k=3->w.q.valid=true/\0<=w.q.v/\w.q.v<=1)/\(k=5->PVal w.poly)
noncomputable instance (k:Int) (w:GW):Decidable (w.si k):=Classical.propDecidable _
theorem si1{w:GW}:w.si 1 ↔ w.parts=[]/\w.inf=false/\w.cost=0/\w.set=0/\w.poly=[]/\w.q.valid=true:=by simp[GW.si,and_assoc]
theorem si2{w:GW}:w.si 2 ↔ w.parts=[]/\w.q=gr0/\w.set=0/\w.poly=[]/\0<=w.cost/\w.cost<=1099511627776/\(w.inf=true->w.cost=0):=by simp[GW.si]
theorem si3{w:GW}:w.si 3 ↔ w.parts=[]/\w.inf=false/\w.cost=0/\w.set=0/\w.poly=[]/\w.q.valid=true/\0<=w.q.v/\w.q.v<=1:=by simp[GW.si,and_assoc]
theorem si4{w:GW}:w.si 4 ↔ w.parts=[]/\w.q=gr0/\w.inf=false/\w.cost=0/\w.poly=[]:=by simp[GW.si,and_assoc]
theorem si5{w:GW}:w.si 5 ↔ w.parts=[]/\w.q=gr0/\w.inf=false/\w.cost=0/\w.set=0/\PVal w.poly:=by simp[GW.si,and_assoc]
theorem zkm{q:Rat}:0<=sgnR q ↔ 0<=q:=by rw[<- Rat.num_nonneg];unfold sgnR;(repeat' split)<;>omega
theorem z5p:(rto 1).sm 1:=⟨zau (by decide),by decide⟩
def GW.chk(r:GRing)(w:GW):Prop:=r.ok=true/\(r.kind≠6->w.si r.kind)/\(r.kind=6->w.parts.length=r.parts.length/\w=.mk gr0 0 false 0 [] w.parts/\∀ i,(h:i<r.parts.length)->(h':i<w.parts.length)->w.parts[i].si r.parts[i])
noncomputable instance (r:GRing) (w:GW):Decidable (w.chk r):=Classical.propDecidable _
theorem GRing.ok_kind{r:GRing}(h:r.ok=true)(h6:r.kind≠6):1<=r.kind/\r.kind<=5/\r.parts=[]:=by simp only[GRing.ok,yf0 h6,decide_eq_true_eq]at h;exact h
theorem GRing.ok_parts{r:GRing}(h:r.ok=true)(h6:r.kind=6):2<=r.parts.length/\r.parts.length<=3/\∀ k∈r.parts,1<=k/\k<=5:=by simp only[GRing.ok,yf1 h6,decide_eq_true_eq]at h;exact h
@[simp] theorem GW.q_mk(q:GRat)(c:Int)(i:Bool)(s:UInt64)(p:List GMono)(ps:List GW):(GW.mk q c i s p ps).q=q:=rfl
@[simp] theorem GW.cost_mk(q:GRat)(c:Int)(i:Bool)(s:UInt64)(p:List GMono)(ps:List GW):(GW.mk q c i s p ps).cost=c:=rfl
@[simp] theorem GW.inf_mk(q:GRat)(c:Int)(i:Bool)(s:UInt64)(p:List GMono)(ps:List GW):(GW.mk q c i s p ps).inf=i:=rfl
@[simp] theorem GW.set_mk(q:GRat)(c:Int)(i:Bool)(s:UInt64)(p:List GMono)(ps:List GW):(GW.mk q c i s p ps).set=s:=rfl
@[simp] theorem GW.poly_mk(q:GRat)(c:Int)(i:Bool)(s:UInt64)(p:List GMono)(ps:List GW):(GW.mk q c i s p ps).poly=p:=rfl
@[simp] theorem GW.parts_mk(q:GRat)(c:Int)(i:Bool)(s:UInt64)(p:List GMono)(ps:List GW):(GW.mk q c i s p ps).parts=ps:=rfl
@[simp] theorem yd4:gr0.neg=false:=rfl
@[simp] theorem yd3:gr0.num=[]:=rfl
@[simp] theorem yd5:gr0.den=[]:=rfl
theorem zgm(n:Nat):gr0.sm n:=⟨by simp[gr0],by simp[gr0]⟩
theorem GW.sm.tup{n:Nat}{ps:List GW}(h:ps.length<=n)(k:∀ w∈ps,w.sm n):(GW.mk gr0 0 false 0 [] ps).sm n:=.mk (zgm n) (by intro m hm;simp at hm) (by simp) h k
theorem zt3(m n:GMono):m=n ↔ (m.e.a=n.e.a/\m.e.b=n.e.b/\m.e.c=n.e.c)/\m.coef=n.coef:=by obtain⟨⟨a,b,c⟩,q⟩:=m;obtain⟨⟨a',b',c'⟩,q'⟩:=n;simp
theorem zvh(m n:GMono)(hm:m.coef.sm 1048576):Sp P F.fx [enc m,enc n] (.pure (.bool (decide (m=n)))):=by
 refine Sp.vz c.fx fun _=>?_;simp[g.fx];refine⟨fun h1 h2 h3=>?_,fun h=>?_⟩
 ·refine zaa (zmj m.coef n.coef (hm.mono (by omega))) rfl ?_;simp[zt3,h1,h2,h3]
 ·have hmn:m≠n:=fun e=>by obtain⟨⟨h1,h2,h3⟩,_⟩:=(zt3 m n).1 e;exact h h1 h2 h3
  simp[hmn]
theorem zdp(v:GW)(hv:v.sm 1048576):∀ w:GW,Sp P F.af [enc v,enc w] (.pure (.bool (decide (v=w)))):=by
 revert v;refine GW.sm.ind fun v hv ih w=>?_;refine Sp.vz c.af fun hok=>?_;simp[g.af];refine zaa (zmj v.q w.q (hv.q.mono (by omega))) rfl ?_;by_cases h1:v.q=w.q;rotate_left
 ·have:v≠w:=fun h=>h1 (by rw[h]);simp[h1,this]
 simp[h1];refine⟨fun h2=>?_,fun h2=>?_⟩;rotate_left
 ·exact fun h=>h2 (by rw[h])
 refine⟨fun h3=>?_,fun h3=>?_⟩;rotate_left
 ·exact fun h=>h3 (by rw[h])
 refine⟨fun h4'=>?_,fun h4=>?_⟩;rotate_left
 ·exact fun h=>h4 (by rw[h])
 have h4:v.set=w.set:=UInt64.toNat_inj.1 (by omega);refine zaa (zjq v.poly w.poly F.fx (by have:=hv.len;omega) fun x hx y _=>zvh x y (hv.poly x hx)) rfl ?_;by_cases h5:v.poly=w.poly;rotate_left
 ·have:v≠w:=fun h=>h5 (by rw[h]);simp[h5,this]
 simp[h5];refine zaa (zl9 v.parts w.parts F.af (by have:=hv.plen;omega) fun x hx y _=>ih x hx y) rfl ?_;by_cases h6:v.parts=w.parts
 ·have:v=w:=GW.ext h1 h2 h3 h4 h5 h6;simp[this]
 ·have:v≠w:=fun h=>h6 (by rw[h]);simp[h6,this]
end Go.Ab
namespace Go.Ab
open Enc (enc)
section
variable {P:Program} {K:Ctx} {Z Z':Cz} {st st' st1 st2:St} {w w':World} {a:Act} {N:Nat} {ex:Exit} {A B:Option FA} {Post:Exit->St->Option FA->Prop} {PostI:St->Option FA->Prop}
theorem zmb{c:Callee}{ts:Array TypeId}{aq:List Opd}{f0:FuncId}{xs0:List Opd}(h:zcp P c ts aq=some (.call f0 xs0)):∃ g,c=.value g/\zag g=some (.c (.p (.fn f0 [])))/\aq=xs0:=by
 unfold zcp at h;split at h
 ·grind
 ·grind
 ·exfalso
  repeat' split at h
  all_goals first
   | cases h
   | (obtain⟨_,_,h⟩:=mapS h;cases h)
theorem za7{α : Type}{x:Option α}{f : α -> Option IOp}{f0:FuncId}{xs0:List Opd}(h:x.bind f=some (.call f0 xs0))(k:∀ y,f y≠some (.call f0 xs0)):False:=by obtain⟨y,_,h⟩:=zcn h;exact k y h
theorem zeq{α : Type}{x:Option α}{f : α -> IOp}{f0:FuncId}{xs0:List Opd}(h:x.map f=some (.call f0 xs0))(k:∀ y,f y ≠ .call f0 xs0):False:=by simp_all
theorem zqr{t:TypeId}{m k:Operand}{c:Bool}{f0:FuncId}{xs0:List Opd}(h:zfu P t m k c=some (.call f0 xs0)):False:=by
 unfold zfu at h
 repeat' split at h
 all_goals first
  | exact za7 h fun _ h=>za7 h fun _ h=>za7 h fun _ h=>zeq h fun _ h=>by cases h
  | cases h
theorem zow{t:TypeId}{x:Operand}{lo hi mx:Option Operand}{f0:FuncId}{xs0:List Opd}(h:zfb P t x lo hi mx=some (.call f0 xs0)):False:=by
 unfold zfb at h
 repeat' split at h
 all_goals first
  | exact za7 h fun _ h=>za7 h fun _ h=>zeq h fun _ h=>by cases h
  | cases h
theorem zsb{op:BinOp}{x y:Opd}{f0:FuncId}{xs0:List Opd}(h:zhr op x y=some (.call f0 xs0)):False:=by
 unfold zhr at h
 grind
theorem zqp{fn:Fn}{x y:Array Operand}{f0:FuncId}{xs0:List Opd}(h:zg6 fn x y=some (.call f0 xs0)):False:=by
 unfold zg6 at h
 repeat' split at h
 all_goals first
  | exact zeq h fun _ h=>by cases h
  | cases h
theorem zne{op:Op}{f0:FuncId}{xs0:List Opd}(h:zb2 P op=some (.call f0 xs0)):∃ cc h,op=.call cc/\cc.callee=.value h/\zag h=some (.c (.p (.fn f0 [])))/\zaz cc.args.toList=some xs0:=by
 cases op
 case call c =>
  obtain⟨aq,ha,h⟩:=zcn h;obtain⟨g,h1,h2,rfl⟩:=zmb h
  grind
 case lookup t m k c=>exact(zqr h).elim
 case slice=>exact(zow h).elim
 case makeFunc=>exact(zqp h).elim
 case move|assign|alloc|box|nilCheck|extract=>exact(zeq h fun _ h=>by cases h).elim
 case pick=>exact(za7 h fun _ h=>za7 h fun _ h=>zeq h fun _ h=>by cases h).elim
 case binOp =>
  refine(za7 h fun _ h=>za7 h fun _ h=>?_).elim;split at h
  ·grind
  ·grind
  ·exact zsb h
  ·simp_all
 case unOp =>
  refine(za7 h fun _ h=>?_).elim;split at h<;>cases h
 case convert =>
  refine(za7 h fun _ h=>?_).elim;split at h<;>cases h
 case load=>refine(za7 h fun _ h=>?_).elim;split at h<;>cases h
 case store=>refine(za7 h fun _ h=>za7 h fun _ h=>?_).elim;split at h<;>cases h
 case build =>
  simp only[zb2]at h;split at h
  ·refine(za7 h fun _ h=>za7 h fun _ h=>?_).elim;split at h
   ·exact zeq h fun _ h=>by cases h
   ·cases h
  ·refine(za7 h fun _ h=>za7 h fun _ h=>?_).elim;split at h
   ·exact zeq h fun _ h=>by cases h
   ·cases h
  ·cases h
 case buildSlice =>
  simp only[zb2]at h;split at h
  ·exact(za7 h fun _ h=>zeq h fun _ h=>by cases h).elim
  ·cases h
 case makeSlice =>
  simp only[zb2]at h;split at h
  ·refine(za7 h fun _ h=>za7 h fun _ h=>za7 h fun _ h=>?_).elim;split at h<;>cases h
  ·cases h
 case fieldAddr =>
  simp only[zb2]at h;split at h
  ·split at h
   ·split at h
    ·exact(zeq h fun _ h=>by cases h).elim
    ·cases h
   ·cases h
  ·cases h
 case field =>
  simp only[zb2]at h;split at h
  ·split at h
   ·split at h
    ·exact(zeq h fun _ h=>by cases h).elim
    ·cases h
   ·cases h
  ·cases h
 case indexAddr =>
  simp only[zb2]at h;split at h
  ·split at h
   ·exact(za7 h fun _ h=>zeq h fun _ h=>by cases h).elim
   ·cases h
  ·split at h
   ·exact(za7 h fun _ h=>zeq h fun _ h=>by cases h).elim
   ·cases h
  ·cases h
 case index =>
  simp only[zb2]at h;split at h
  ·split at h
   ·exact(za7 h fun _ h=>zeq h fun _ h=>by cases h).elim
   ·cases h
  ·exact(za7 h fun _ h=>zeq h fun _ h=>by cases h).elim
  ·cases h
 all_goals cases h
theorem zx7{d:Option Nat}{f:FuncId}{xs:List Opd}{r:Nat}{ks vs args ks' vs':List PV}(hsp:SpU P f ks vs args ks' vs')(hxs:xs.map st.ev=.p (.mapv r)::args.map .p)(hn1:zd3 ks'=true)(hn2:zd3 vs'=true)
  (k:PostI (st.put d (.p (.tup []))) (some (zhn r ks' vs'))):MOp P N ⟨d,.call f xs,none⟩ st (some (zhn r ks vs)) PostI:=by
 intro ops j o K Z w a Q Kt hN hj hcc hs hA hK;obtain⟨h1,h2,h3,h4⟩:=zdr hcc;obtain⟨cc,h,hop,hf,hh,hops⟩:=zne h1;have hg:o.guard=none:=by
  cases hg:o.guard with
  | none=>rfl
  | some jb =>
   obtain⟨j,b⟩:=jb;rw[hg]at h2;simp only[zds]at h2;split at h2<;>cases h2
 have hw:Region.wanted o (yielded ops a.tmps)=true:=by simp[Region.wanted,hg]
 have hd:d=o.dst:=h3;obtain⟨hfn,hsp⟩:=hsp;have hr:=zim hops hs;rw[hxs]at hr;have hfr:=zaq hh hs;simp only[St.ev]at hfr;have hfv:a.eval h=.func (.func f) #[] #[]:=by
  have hp:=hfr.inv_p;generalize a.eval h=F at hp ⊢;cases hp with
  | fn _ _ vals h=>cases h;rfl
 have hrun:(execOp a.eval o).run P w=.ok (.enter f ((cc.args.toList.map a.eval).toArray)) w:=by
  have:=zep (P:=P) (w:=w) (args:=(cc.args.toList.map a.eval).toArray) hfn;simp only[execOp,hop,resolve,hf,hfv,Deferred.ofValue,yfx,yg0,yg8,invoke];have e : #[]++cc.args.map a.eval ++ #[]=(cc.args.toList.map a.eval).toArray:=by simp[<- Array.toList_map]
  rw[e];exact this
 have hp0:PReps Z.M (.mapv r::args) (cc.args.toList.map a.eval):=AReps.to_p (by simpa using hr);generalize cc.args.toList.map a.eval=vals at hp0 hrun;obtain⟨hF,hX,es,clock,q0,q1,q2,q3,q4,q5⟩:=hA;simp only[zhn]at hF hX q0
 let Mp:Nat->Option Obj:=fun b=>if b=r then w.heap[r]? else Z.M b
 have hsub:∀ b o,Z.M b=some o->Mp b=some o:=fun b o ho=>by
  simp only[Mp];rw[yf0];· exact ho
  ·rintro rfl;rw[hF.m]at ho;cases ho
 have hMp:∀ b o,Mp b=some o->w.heap[b]?=some o:=fun b o ho=>by
  simp only[Mp]at ho;split at ho
  ·rename_i hb;subst hb;exact ho
  ·exact hs.heap.mem b o ho
 have hvals:PReps Mp (.mp r ks vs::args) vals:=by
  cases hp0 with
  | cons _ _ _ _ h0 h1 =>
   cases h0;exact .cons _ _ _ _ (.mp r ks vs es clock (by simp only[Mp,yf2];exact q0) (q1.mono hsub) (q2.mono hsub) q3 q4 q5) (h1.mono hsub)
 refine(show o.wp P a w Kt Q from ?_) |> fun h=>by unfold wpOp;simp only[hj,hw,yf2];exact .inl h
 unfold Oper.wp;rw[hrun,yiz];refine(hsp w Mp r vals hMp hvals).mono ?_;rintro e w' ⟨M',rfl,p1,p2,p3,p4,p5⟩;obtain⟨es',clock',t0,t1,t2,t3,t4,t5⟩:∃ es' clock',M' r=some (.map es' clock')/\PReps M' ks' (es'.toList.map (·.key))/\PReps M' vs' (es'.toList.map (·.val))/\(es'.toList.map (·.key)).Nodup/\(∀ e∈es'.toList,e.born<clock')/\(es'.toList.map (·.born)).Nodup:=by
  cases p5 with
  | mp _ _ _ es clock m0 m1 m2 m3 m4 m5=>exact⟨es,clock,m0,m1,m2,m3,m4,m5⟩
 let M1:Nat->Option Obj:=fun b=>if b=r then none else M' b
 have hM1:∀ b o,M1 b=some o->b≠r/\M' b=some o:=fun b o h=>by
  simp only[M1]at h;split at h
  ·cases h
  ·exact⟨by assumption,h⟩
 have hcells:∀ b cur T fr,M' b=some (.cells cur T fr)->M1 b=some (.cells cur T fr):=fun b cur T fr h=>by
  simp only[M1];rw[yf0];· exact h
  ·rintro rfl;rw[t0]at h;cases h
 have hold:∀ b o,M1 b=some o->Z.M b=some o\/w.heap.size<=b:=fun b o h=>by
  obtain⟨g1,g2⟩:=hM1 b o h;rcases p3 b o g2 with h|h|h
  ·exact absurd h g1
  ·simp only[Mp]at h;rw[yf0 g1]at h;exact .inl h
  ·exact .inr h
 have hHw:HRep K Z st w':=hs.heap.world p4 fun b hb=>by subst hb;exact⟨hF.m,hF.o,hX⟩
 have hZM1:∀ b o,Z.M b=some o->M1 b=some o:=fun b o hb=>by
  have hbr:b≠r:=by rintro rfl;rw[hF.m]at hb;cases hb
  simp only[M1];rw[yf0 hbr];exact p1 b o hbr (hsub b o hb)
 have hH1:HRep K { Z with M:=M1 } st w':=by
  refine hHw.grow (Keep.refl _ _) M1 hZM1 (fun b o hb=>p2 b o (hM1 b o hb).2) (fun b o hb=>?_) (fun s g o b ho hb=>?_)
  ·rcases hold b o hb with h|h
   ·exact .inl h
   ·exact .inr (.inr (yf7 hs.heap.keep.size h))
  ·cases hm:M1 b with
   | none=>rfl
   | some y =>
    rcases hold b y hm with h|h
    ·rw[hs.heap.sep s g o b ho hb]at h;cases h
    ·have:=hs.heap.lt ho hb;omega
 have hz:ZLe Z st { Z with M:=M1 } st:=.growM hZM1;refine hK _ _ _ _ _ k (?_:StRep K { Z with M:=M1 } (st.put d (.p (.tup []))) w' _) (zea.site ?_ fun s=>za6 st d _ s)
 ·rw[hd];exact hs.put rfl hz hH1 (.p _ _ (.tup [] [] .nil)) (by subst hN;exact h4) hs.defers
 ·refine⟨⟨by simp[M1,zhn],hF.o,?_⟩,hX,es',clock',p2 _ _ t0,t1.nomp hcells hn1,t2.nomp hcells hn2,t3,t4,t5⟩;exact yfo hF.lt p4.size
theorem MR.freeze{ac:AC}{t r:Nat}{ks vs:List PV}(ht:st.get t=.p (.mapv r))(k:MR P N ac (st.put (some t) (.p (.mp r ks vs))) none Post):MR P N ac st (some (zhn r ks vs)) Post:=by
 intro code hc K Z w a Q hN hs hA hQ;obtain⟨hF,hX,es,clock,q0,q1,q2,q3,q4,q5⟩:=hA;simp only[zhn]at hF hX q0
 let M1:Nat->Option Obj:=fun b=>if b=r then w.heap[r]? else Z.M b
 have hsub:∀ b o,Z.M b=some o->M1 b=some o:=fun b o ho=>by
  simp only[M1];rw[yf0];· exact ho
  ·rintro rfl;rw[hF.m]at ho;cases ho
 have hH1:HRep K { Z with M:=M1 } st w:=by
  refine hs.heap.grow (Keep.refl _ _) M1 hsub (fun b o hb=>?_) (fun b o hb=>?_) (fun s g o b ho hb=>?_)
  ·simp only[M1]at hb;split at hb
   ·rename_i hbr;subst hbr;exact hb
   ·exact hs.heap.mem b o hb
  ·simp only[M1]at hb;split at hb
   ·rename_i hbr;subst hbr;exact .inr hX
   ·exact .inl hb
  ·simp only[M1];rw[yf0];· exact hs.heap.sep s g o b ho hb
   ·rintro rfl;exact hF.o s g o ho hb
 have hz:ZLe Z st { Z with M:=M1 } st:=.growM hsub;have hs1:StRep K { Z with M:=M1 } (st.put (some t) (.p (.mp r ks vs))) w a:=by
  refine⟨fun u=>?_,hs.defers,hs.size,hH1.of_site fun i=>za6 _ _ _ i⟩;rw[zdw];split
  ·rename_i hu;cases hu;have h0:=hs.slots t;rw[ht]at h0;have h0:=h0.inv_p;generalize a.tmps.getD t Go.undef=X at h0;cases h0;exact .p _ _ (.mp r ks vs es clock (by simp only[M1,yf2];exact q0) (q1.mono hsub) (q2.mono hsub) q3 q4 q5)
  ·exact ARep.mono (zbk (fun i=>za6 _ _ _ i) _) (ARep.mono hz (hs.slots u))
 exact k code hc K _ w a Q hN hs1 trivial hQ
theorem Sp.of_mr{f:FuncId}{args:List PV}{res:RV}{n np:Nat}{b:GC}{rs:List (Nat × Option Nat)}(hc:zac P f=some ⟨n,np,b.er,rs⟩)(hn:args.length<=n)
  (h:MR P n b.er (zel args) none fun ex s _=>retP rs res ex s):Sp P f args res:=by
 unfold zac at hc;split at hc
 ·rename_i fn hf;split at hc
  ·rename_i hname;split at hc
   ·rename_i c hb;split at hc
    ·rename_i bd rs' h1 h2;simp only[yf3,FnC.mk.injEq]at hc;obtain⟨rfl,_,rfl,rfl⟩:=hc;refine⟨⟨fn,hf,by rw[hb];rfl,hname⟩,fun w M vals hM hv=>?_⟩;refine calls_of_wp hf hb ?_;refine h _ h1 ⟨w,M,fun _=>False,fn.ntmps⟩ _ w _ _ rfl (zok hM hv hn) trivial (fun ex st' A' Z' w' a' hp hs _=>?_);have hr:(ex=.ret\/ex=.normal)/\∃ vs,zbd st' rs'=some vs/\ResOk st' (resOf vs) res:=by
      have key:(ex=.ret\/ex=.normal)/\∃ vs,zbd st' rs'=some vs/\resP st' (resOf vs) res:=by
       cases ex with
       | ret=>exact⟨.inl rfl,hp⟩
       | normal=>exact⟨.inr rfl,hp⟩
       | _=>exact hp.elim
      obtain⟨k1,vs,r3,r4⟩:=key;refine⟨k1,vs,r3,?_⟩;unfold resP at r4;split at r4
      ·exact .pure _ _ r4
      ·split at r4
       ·rename_i sz es s' g off len hv;obtain⟨o,h1,rfl,h2,rfl,h4⟩:=r4;rw[hv];exact .fresh _ _ _ _ _ h1 h2 h4
       ·rename_i hv;rw[hv,r4];exact .nil _
       ·exact r4.elim
      ·exact r4.elim
     obtain⟨hex,vs,hvs,hres⟩:=hr
     have hfin:a'.defers=[]/\∃ v,(results fn a'.tmps).run P w'=.ok v w'/\∃ x M',Ending.returned v=.returned x/\(∀ b o,M b=some o->M' b=some o)/\(∀ b o,M' b=some o->w'.heap[b]?=some o) /\
       (∀ b o,M' b=some o->M b=some o\/w.heap.size<=b)/\Keep w w' (fun _=>False)/\RRep M' w w' res x:=by
      obtain⟨xs,e1,e2⟩:=zij hs h2 hvs;obtain⟨M',m1,m2,m3,m4,m5⟩:=znw hs.heap e2.resOf hres;refine⟨hs.defers,_,?_,_,M',rfl,m1,m2,m3,m4,m5⟩;unfold results;rw[yin];simp only[yfx,map_eq_pure_bind,yg0];exact congrArg (fun r=>(Result.andThen r fun a w'=>Result.ok a.toArray w').andThen fun(a:Array Value) w'=>Result.ok (if h:a.size=1 then a[0]else Value.tuple a) w') e1
     rcases hex with rfl|rfl
     ·exact hfin
     ·exact hfin
    ·cases hc
   ·cases hc
  ·cases hc
 ·cases hc
end
section
variable {P:Program} {K:Ctx} {st st' st1:St} {N:Nat} {A B:Option FA} {Post:Exit->St->Option FA->Prop} {PostI:St->Option FA->Prop}
theorem MR.gseq{a b:GC}(h:vm P N (fun ex s=>(ex=.normal->MR P N b.er s A Post)/\(ex ≠ .normal->Post ex s A)) [.code a] st):MR P N (GC.seq a b).er st A Post :=
 .seq (.of_vm h)
theorem MR.gseq'{a b:GC}(h:MR P N a.er st A fun ex s B=>(ex=.normal->MR P N b.er s B Post)/\(ex ≠ .normal->Post ex s B)):MR P N (GC.seq a b).er st A Post:=.seq h
theorem MR.gcond{a b:GC}{c:Opd}{dl:List Nat}{t:Bool}(hv:st.ev c=.p (.bool t))(h1:t=true->MR P N a.er (st.drop dl) A Post)(h2:t=false->MR P N b.er (st.drop dl) A Post):MR P N (GC.cond c dl a b).er st A Post:=by
 refine .cond hv ?_;cases t with
 | true=>exact .weak (zhv _ _) (h1 rfl)
 | false=>exact .weak (zhv _ _) (h2 rfl)
theorem MR.gregD{ops:List Ins}{pre dead:List (List Nat)}{i:Ins}(ho:ops.getLast?=some i)(hl:zym pre ops.dropLast.length=true)
  (h:vm P N (fun ex s=>ex=.normal->MOp P N i s A fun s B=>Post .normal s B) [.insD ops.dropLast [] pre dead] st):MR P N (GC.regD ops pre dead).er st A Post:=by
 obtain⟨gs,s1,s2,r1,r2,r3,r4⟩:=zcq _ (yf8 _) h;have e:ops=ops.dropLast++[i]:=by
  have hne:ops≠[]:=by rintro rfl;simp at ho
  rw[List.getLast?_eq_getLast hne]at ho;rw[<- Option.some.inj ho];exact(List.dropLast_concat_getLast hne).symm
 show MR P N (.regD ops pre) st A Post;rw[e];exact .regDL r1 (by simpa using r2) hl (.weak r3 (r4 rfl))
theorem MR.greg{ops:List Ins}{dead:List (List Nat)}(h:MIns P N ops st A fun s B=>Post .normal s B):MR P N (GC.reg ops dead).er st A Post:=.reg h
theorem zn9(n:Nat)(dead:List (List Nat)){ops:List Ins}(h:Go.Ab.vm P N (fun ex s=>ex=.normal->MIns P N (ops.drop n) s A PostI) [.ins (ops.take n) dead] st):MIns P N ops st A PostI:=by
 have:=MIns.vm h
 rwa[yif]at this
theorem MIns.cons{i:Ins}{is:List Ins}(h:MOp P N i st A fun s B=>MIns P N is s B PostI):MIns P N (i::is) st A PostI:=h
theorem MR.gblk{b:GC}{id:Nat}(h:MR P N b.er st A fun ex s B=>Post (exB id ex) s B):MR P N (GC.blk id b).er st A Post:=.blk h
theorem MR.gloop{b:GC}{I:Nat->St->Option FA->Prop}(n:Nat)(hI:I n st A)(step:∀ n st A,I n st A->MR P N b.er st A fun ex s B=>(ex=.normal->∃ m,m<n/\I m s B)/\(ex ≠ .normal->Post ex s B)):MR P N (GC.loop b).er st A Post:=.loop n hI step
theorem MR.gext{id:Nat}(h:Post (.exit id) st A):MR P N (GC.ext id).er st A Post:=.ext h
theorem MR.gnop(h:Post .normal st A):MR P N GC.nop.er st A Post:=.nop h
attribute [simp] zd3 PV.nomp
end
section
variable {κ α : Type} [Enc κ] [Enc α] [DecidableEq κ]
def mget(e : κ):List (κ × α)->Option α
 | []=>none
 | (e',c)::L=>if e'=e then some c else mget e L
def mset(e : κ)(c : α):List (κ × α)->List (κ × α)
 | []=>[(e,c)]
 | (e',c')::L=>if e'=e then(e',c)::L else(e',c')::mset e c L
def mks(L:List (κ × α)):List PV:=L.map fun p=>enc p.1
def mvs(L:List (κ × α)):List PV:=L.map fun p=>enc p.2
theorem zi8{kc : κ -> List PV}(hk:∀ e,enc e=.agg (kc e))(heq:∀ e e',eqI (kc e) (kc e')=true ↔ e=e')(e : κ):∀ L:List (κ × α),zbu (kc e) (mks L) (mvs L)=(mget e L).map enc
 | []=>rfl
 | (e',c)::L=>by
  simp only[mks,mvs,yfq,hk,zbu,heq,mget];split
  ·rfl
  ·have:=zi8 hk heq e L;simp only[mks,mvs,hk]at this;exact this
theorem zk8{kc : κ -> List PV}(hk:∀ e,enc e=.agg (kc e))(heq:∀ e e',eqI (kc e) (kc e')=true ↔ e=e')(e : κ)(c : α):∀ L:List (κ × α),zch (kc e) (enc c) (mks L) (mvs L)=(mks (mset e c L),mvs (mset e c L))
 | []=>by simp[mks,mvs,zch,mset,hk]
 | (e',c')::L=>by
  have ih:=zk8 hk heq e c L;simp only[mks,mvs,hk]at ih;simp only[mks,mvs,yfq,hk,zch,heq,mset];split
  ·rfl
  ·simp only[ih,yfq]
theorem zk6(e : κ)(c : α)(e' : κ):∀ L:List (κ × α),mget e' (mset e c L)=if e=e' then some c else mget e' L
 | []=>rfl
 | (e1,c1)::L=>by
  have ih:=zk6 e c e' L;by_cases h:e1=e
  ·subst h;simp only[mset,yf2,mget];by_cases h2:e1=e'
   ·simp[h2]
   ·simp[h2]
  ·simp only[mset,yf0 h,mget,ih];by_cases h2:e1=e'
   ·subst h2;simp[ygr h]
   ·simp[h2]
theorem zp2(e : κ)(c : α):∀ L:List (κ × α),(mset e c L).map (·.1)=if e∈L.map (·.1)then L.map (·.1)else L.map (·.1)++[e]
 | []=>rfl
 | (e1,c1)::L=>by
  have ih:=zp2 e c L;simp only[mset];split
  ·rename_i h;subst h;simp
  ·rename_i h;simp only[yfq,ih,yf4,ygr h,false_or];split<;>rfl
theorem ztl{e : κ}{c : α}:∀ {L:List (κ × α)},mget e L=some c->(e,c)∈L
 | (e1,c1)::L,h=>by
  simp only[mget]at h;split at h
  ·rename_i h1;subst h1;cases h;simp
  ·exact ygk _ (ztl h)
theorem zu6(e : κ)(c : α){L:List (κ × α)}(h:(L.map (·.1)).Nodup):((mset e c L).map (·.1)).Nodup:=by
 rw[zp2];split
 ·exact h
 ·rename_i he;exact yjg.2 ⟨h,by simp,fun a ha b hb=>by simp at hb;subst hb;rintro rfl;exact he ha⟩
end
def SpV(P:Program)(f:FuncId)(vals:List Value)(res:RV):Prop :=
 (∃ fn,P.funcs[f]?=some fn/\fn.body.isSome=true/\fn.name ≠ "runtime.NumGoroutine") /\
 ∀ (w:World) (M:Nat->Option Obj),(∀ b o,M b=some o->w.heap[b]?=some o) ->
  Calls P f vals.toArray w fun e w'=>∃ x M',e=.returned x/\(∀ b o,M b=some o->M' b=some o)/\(∀ b o,M' b=some o->w'.heap[b]?=some o) /\
   (∀ b o,M' b=some o->M b=some o\/w.heap.size<=b)/\Keep w w' (fun _=>False)/\RRep M' w w' res x
section
variable {P:Program} {K:Ctx} {Z Z':Cz} {st st' st1:St} {w w':World} {a:Act} {N:Nat} {A B:Option FA} {Post:Exit->St->Option FA->Prop} {PostI:St->Option FA->Prop} {v:AV}
theorem zx6{d:Option Nat}{f:FuncId}{xs:List Opd}{vals:List Value}{res:RV}(hsp:SpV P f vals res)(hv:∀ (Z:Cz) (ys:List Value),AReps Z st (xs.map st.ev) ys->ys=vals)(hres:zex ⟨f,[],res,none⟩ st (d.getD 0) []=some (v,st1))(hsl:st1.sl=st.sl)
  (k:PostI (st1.put d v) none):MOp P N ⟨d,.call f xs,none⟩ st none PostI:=by
 intro ops j o K Z w a Q Kt hN hj hcc hs hA hK;obtain⟨h1,h2,h3,h4⟩:=zdr hcc;obtain⟨cc,h,hop,hf,hh,hops⟩:=zne h1;have hg:o.guard=none:=by
  cases hg:o.guard with
  | none=>rfl
  | some jb =>
   obtain⟨j,b⟩:=jb;rw[hg]at h2;simp only[zds]at h2;split at h2<;>cases h2
 have hw:Region.wanted o (yielded ops a.tmps)=true:=by simp[Region.wanted,hg]
 have hd:d=o.dst:=h3;obtain⟨hfn,hsp⟩:=hsp;have hr:=zim hops hs;have hfr:=zaq hh hs;simp only[St.ev]at hfr;have hfv:a.eval h=.func (.func f) #[] #[]:=by
  have hp:=hfr.inv_p;generalize a.eval h=F at hp ⊢;cases hp with
  | fn _ _ vals h=>cases h;rfl
 have hvs:cc.args.toList.map a.eval=vals:=hv Z _ (by simpa using hr);have hrun:(execOp a.eval o).run P w=.ok (.enter f vals.toArray) w:=by
  have:=zep (P:=P) (w:=w) (args:=(cc.args.toList.map a.eval).toArray) hfn;simp only[execOp,hop,resolve,hf,hfv,Deferred.ofValue,yfx,yg0,yg8,invoke];have e : #[]++cc.args.map a.eval ++ #[]=(cc.args.toList.map a.eval).toArray:=by simp[<- Array.toList_map]
  rw[e,this,hvs]
 refine(show o.wp P a w Kt Q from ?_) |> fun h=>by unfold wpOp;simp only[hj,hw,yf2];exact .inl h
 unfold Oper.wp;rw[hrun,yiz];have hmx:∀ b o,Mx Z st w [] b=some o->Z.M b=some o:=fun b o hb=>by
  rcases zbx hb with h|⟨_,_,s,g,ob,h,_⟩
  ·exact h
  ·cases h
 refine(hsp w (Mx Z st w []) (fun b o hb=>hs.heap.mem b o (hmx b o hb))).mono ?_;rintro e w' ⟨x,M',rfl,p1,p2,p3,p4,p5⟩;obtain⟨Z',q1,q2,q3⟩:=zqu (c:=⟨f,[],res,none⟩) (vs:=[]) hs.heap p1 p2 p3 p4 p5 hres;refine hK _ _ Z' _ _ k ?_ trivial;rw[hd];exact hs.put hsl q3 q1 q2 (by subst hN;exact h4) hs.defers
theorem Weak.trunc0{t s sz:Nat}{es:List AV}(hp:s<PINB):Weak ⟨[(t,.own s 0 0 0)],[(s,[some ⟨sz,es⟩])]⟩ ⟨[(t,.own s 0 0 0)],[(s,[some ⟨sz,[]⟩])]⟩:=by
 intro K Z w a hs;have hobj:∀ (es:List AV) s' g' o',(⟨[(t,.own s 0 0 0)],[(s,[some ⟨sz,es⟩])]⟩:St).obj s' g'=some o'->s'=s/\g'=0/\o'=⟨sz,es⟩:=by
  intro es s' g' o' h;simp only[St.obj,St.site,look]at h;split at h
  ·rename_i hs0;cases g' with
   | zero=>simp at h;exact⟨hs0.symm,rfl,h.symm⟩
   | succ g=>simp at h
  ·simp at h
 have h00:∀ es:List AV,(⟨[(t,.own s 0 0 0)],[(s,[some ⟨sz,es⟩])]⟩:St).obj s 0=some ⟨sz,es⟩:=fun es=>by simp[St.obj,St.site,look]
 have hO:=hs.heap.objs s 0 _ (h00 es);refine⟨Z,⟨fun u=>?_,hs.defers,hs.size,⟨fun s' g' o' h=>?_,fun s1 g1 s2 g2 o1 o2 b h1 h2 _ _=>?_,hs.heap.mem,fun s' g' o' b h hb=>?_,fun s' g' o' b h hb=>?_,hs.heap.m0,hs.heap.prov,hs.heap.keep⟩⟩,⟨fun u a _=>?_,fun u g a _ hg _=>?_,fun u g o a _ ho=>?_⟩⟩
 case refine_6=>simp only[St.site,look];split<;>simp
 case refine_7 =>
  simp only[St.site,look]at hg;split at hg
  ·omega
  ·simp at hg
 case refine_8=>have:=(hobj _ _ _ _ ho).1;omega
 ·have hu:=hs.slots u;simp only[St.get,look]at hu ⊢;split at hu
  ·rename_i hut;simp only[hut,yf2];generalize a.tmps.getD u Go.undef=x at hu;cases hu with
   | own0 _ _ o ho hb=>exact .own0 _ _ _ (h00 []) hb
   | own _ _ _ _ o b ad c ho hb h1 h2 h3 h4=>exact .own _ _ _ _ _ b ad c (h00 []) hb h1 (fun h=>absurd h (by omega)) (by simp) h4
   | ownD _ _ _ _ _ _ _ hd=>rw[h00]at hd;cases hd
  ·rename_i hut;simp only[hut,yf9];exact .undef _
 ·obtain⟨rfl,rfl,rfl⟩:=hobj _ _ _ _ h;refine⟨hO.pos,by simp,by simp,fun _=>rfl,fun b hb=>?_⟩;obtain⟨cur,T,vals,k1,k2,k3,k4,k5,k6⟩:=hO.blk b hb;exact⟨cur,T,[],k1,.nil,by simp,k4,by simp,k6⟩
 ·obtain⟨rfl,rfl,_⟩:=hobj _ _ _ _ h1;obtain⟨rfl,rfl,_⟩:=hobj _ _ _ _ h2;exact⟨rfl,rfl⟩
 ·obtain⟨rfl,rfl,rfl⟩:=hobj _ _ _ _ h;exact hs.heap.sep _ _ _ b (h00 es) hb
 ·obtain⟨rfl,rfl,rfl⟩:=hobj _ _ _ _ h;exact hs.heap.own _ _ _ b (h00 es) hb
theorem SpV.of_vm{f:FuncId}{vals:List Value}{res:RV}{n np:Nat}{b:GC}{rs:List (Nat × Option Nat)}(hc:zac P f=some ⟨n,np,b.er,rs⟩)(hn:vals.length<=n)
  (hst:st.hp=[]) (hreps:∀ (M:Nat->Option Obj) (t:Nat),ARep ⟨M,fun _ _=>none,fun _ _=>0⟩ st (st.get t) ((vals.toArray++Array.replicate (n - vals.toArray.size) Go.undef).getD t Go.undef))
  (h:vm P n (fun ex s=>∃ s',Weak s s'/\retP rs res ex s') [.code b] st):SpV P f vals res:=by
 have hno:∀ s g,st.obj s g=none:=fun s g=>by simp[St.obj,St.site,hst,look]
 obtain⟨ex,s,hrun,s',hw,hret⟩:=zcq _ (yf8 _) h;have hrun:=hrun.weakR hw;have hr:(ex=.ret\/ex=.normal)/\∃ vs,zbd s' rs=some vs/\ResOk s' (resOf vs) res:=by
  have key:(ex=.ret\/ex=.normal)/\∃ vs,zbd s' rs=some vs/\resP s' (resOf vs) res:=by
   cases ex with
   | ret=>exact⟨.inl rfl,hret⟩
   | normal=>exact⟨.inr rfl,hret⟩
   | _=>exact hret.elim
  obtain⟨k1,vs,r3,r4⟩:=key;refine⟨k1,vs,r3,?_⟩;unfold resP at r4;split at r4
  ·exact .pure _ _ r4
  ·split at r4
   ·rename_i sz es s' g off len hv;obtain⟨o,h1,rfl,h2,rfl,h4⟩:=r4;rw[hv];exact .fresh _ _ _ _ _ h1 h2 h4
   ·rename_i hv;rw[hv,r4];exact .nil _
   ·exact r4.elim
  ·exact r4.elim
 obtain⟨hex,vs,hvs,hres⟩:=hr;unfold zac at hc;split at hc
 ·rename_i fn hf;split at hc
  ·rename_i hname;split at hc
   ·rename_i c hb;split at hc
    ·rename_i bd rs' h1 h2;simp only[yf3,FnC.mk.injEq]at hc;obtain⟨rfl,_,rfl,rfl⟩:=hc;refine⟨⟨fn,hf,by rw[hb];rfl,hname⟩,fun w M hM=>?_⟩;refine calls_of_wp hf hb ?_;refine hrun _ h1 ⟨w,M,fun _=>False,fn.ntmps⟩ ⟨M,fun _ _=>none,fun _ _=>0⟩ w _ _ rfl ⟨hreps M,rfl,by simp;omega,⟨fun s g o ho=>(by rw[hno]at ho;cases ho),fun s g _ _ o _ b ho=>(by rw[hno]at ho;cases ho),hM,fun s g o b ho=>(by rw[hno]at ho;cases ho),fun s g o b ho=>(by rw[hno]at ho;cases ho),fun _ _ h=>h,fun _ _ h=>.inl h,Keep.refl w _⟩⟩ (fun Z' w' a' hs _=>?_)
     have hfin:a'.defers=[]/\∃ v,(results fn a'.tmps).run P w'=.ok v w'/\∃ x M',Ending.returned v=.returned x/\(∀ b o,M b=some o->M' b=some o)/\(∀ b o,M' b=some o->w'.heap[b]?=some o) /\
       (∀ b o,M' b=some o->M b=some o\/w.heap.size<=b)/\Keep w w' (fun _=>False)/\RRep M' w w' res x:=by
      obtain⟨xs,e1,e2⟩:=zij hs h2 hvs;obtain⟨M',m1,m2,m3,m4,m5⟩:=znw hs.heap e2.resOf hres;refine⟨hs.defers,_,?_,_,M',rfl,m1,m2,m3,m4,m5⟩;unfold results;rw[yin];simp only[yfx,map_eq_pure_bind,yg0];exact congrArg (fun r=>(Result.andThen r fun a w'=>Result.ok a.toArray w').andThen fun(a:Array Value) w'=>Result.ok (if h:a.size=1 then a[0]else Value.tuple a) w') e1
     rcases hex with rfl|rfl
     ·exact hfin
     ·exact hfin
    ·cases hc
   ·cases hc
  ·cases hc
 ·cases hc
end
section
variable {P:Program} {K:Ctx} {Z Z':Cz} {st st':St} {w w':World} {a:Act}
theorem HRep.same2(h:HRep K Z st w){s g:Nat}{o:AObj}(ho:st.obj s g=some o){es:List AV}(hl:es.length=o.es.length)(h2:∀ e∈es,e.sz=o.sz)(h3:∀ c∈es.flatMap AV.cells,c.one=true)
  (h4:∀ b,Z.B s g=some b->∃ (cur:Array Value) (T:TypeId) (vals:List Value),w.heap[b]?=some (.cells cur T (0,0))/\AReps Z st (es.flatMap AV.cells) vals /\
   (∀ (i:Nat) (v:Value),vals[i]?=some v->cur[i]?=some v)/\cur.size=Z.cap s g*o.sz/\o.es.length<=Z.cap s g/\Z.cap s g<=maxLen):HRep K Z (st.setObj s g ⟨o.sz,es⟩) w:=by
 have hg:=zby ho;have hz:=ZLe.setObj Z st s g o ⟨o.sz,es⟩ ho rfl hl;have old:∀ {s' g':Nat} {o':AObj},(st.setObj s g ⟨o.sz,es⟩).obj s' g'=some o'->∃ o0,st.obj s' g'=some o0:=by
  intro s' g' o' ho';rw[za9 _ _ _ _ _ _ hg]at ho';split at ho'
  ·rename_i hc;obtain⟨rfl,rfl⟩:=hc;exact⟨o,ho⟩
  ·exact⟨o',ho'⟩
 refine⟨fun s' g' o' ho'=>?_,fun s' g' s'' g'' o' o'' b a1 a2 b1 b2=>?_,h.mem,fun s' g' o' b a1 b1=>?_,fun s' g' o' b a1 b1=>?_,h.m0,h.prov,h.keep⟩
 ·rw[za9 _ _ _ _ _ _ hg]at ho';split at ho'
  ·rename_i hc;obtain⟨rfl,rfl⟩:=hc;cases ho';obtain⟨k1,k2,k3,k4,k5⟩:=h.objs s' g' o ho;refine⟨k1,h2,h3,fun hb=>List.eq_nil_of_length_eq_zero (by rw[hl,k4 hb];rfl),fun b hb=>?_⟩;obtain⟨cur,T,vals,e1,e2,e3,e4,e5,e6⟩:=h4 b hb;exact⟨cur,T,vals,e1,AReps.mono hz e2,e3,e4,by simpa[hl]using e5,e6⟩
  ·exact(h.objs s' g' o' ho').later hz rfl rfl (fun _ _=>rfl)
 ·obtain⟨o1,c1⟩:=old a1;obtain⟨o2,c2⟩:=old a2;exact h.inj _ _ _ _ _ _ b c1 c2 b1 b2
 ·obtain⟨o1,c1⟩:=old a1;exact h.sep _ _ _ b c1 b1
 ·obtain⟨o1,c1⟩:=old a1;exact h.own _ _ _ b c1 b1
theorem zhe:∀ (ids:List (Nat × Nat)) {st:St} {s g:Nat} {o:AObj},st.obj s g=some o->(s,g)∉ids->(killAll st ids).obj s g=some o
 | [],_,_,_,_,h,_=>h
 | (s',g')::r,st,s,g,o,h,hn=>by simp only[yf4,yf5,not_or]at hn;rw[zej];refine zhe r ?_ hn.2;rw[zeg,yf0 hn.1];exact h
end
section
variable {P:Program} {K:Ctx} {Z Z':Cz} {st st':St} {w w':World} {a:Act}
def zd9:List AV->List AV->Prop
 | [],[]=>True
 | x::l,y::r=>(x=y\/(x=.p .any/\y.one=true))/\zd9 l r
 | _,_=>False
theorem zd9.reps:∀ {l r:List AV} {vals:List Value},zd9 l r->AReps Z st r vals->AReps Z st l vals
 | [],[],_,_,h=>h
 | [],_::_,_,h,_=>h.elim
 | _::_,[],_,h,_=>h.elim
 | x::l,y::r,_,h,.cons _ v _ vs h1 h2=>by
  refine .cons _ _ _ _ ?_ (zd9.reps h.2 h2);rcases h.1 with rfl|⟨rfl,ho⟩
  ·exact h1
  ·exact .p _ _ (.any _ (ARep.one_val h1 ho))
theorem zd9.one:∀ {l r:List AV},zd9 l r->(∀ c∈r,c.one=true)->∀ c∈l,c.one=true
 | [],[],_,_,c,hc=>by cases hc
 | [],_::_,h,_,_,_=>h.elim
 | _::_,[],h,_,_,_=>h.elim
 | x::l,y::r,h,hr,c,hc=>by
  rcases yf4.1 hc with rfl|hc
  ·rcases h.1 with rfl|⟨rfl,_⟩
   ·exact hr _ yip
   ·rfl
  ·exact zd9.one h.2 (fun c hc=>hr c (ygk _ hc)) c hc
theorem Weak.anyCells{s g:Nat}{o:AObj}(es:List AV)(ho:st.obj s g=some o)(hl:es.length=o.es.length)(h2:∀ e∈es,e.sz=o.sz)(hc:zd9 (es.flatMap AV.cells) (o.es.flatMap AV.cells)):Weak st (st.setObj s g ⟨o.sz,es⟩):=by
 intro K Z w a hs;have hO:=hs.heap.objs s g o ho;have hz:=ZLe.setObj Z st s g o ⟨o.sz,es⟩ ho rfl hl;have hss:=hs.heap.same2 ho hl h2 (hc.one hO.one) (fun b hb=>by
  obtain⟨cur,T,vals,e1,e2,e3,e4,e5,e6⟩:=hO.blk b hb;exact⟨cur,T,vals,e1,hc.reps e2,e3,e4,e5,e6⟩)
 refine⟨Z,⟨fun u=>?_,hs.defers,hs.size,hss⟩,.of_zle hz⟩;rw[show(st.setObj s g ⟨o.sz,es⟩).get u=st.get u from rfl];exact ARep.mono hz (hs.slots u)
end
def endW(rs:List (Nat × Option Nat))(res:RV)(ex:Exit)(s:St):Prop:=∃ s1,Weak s s1/\retP rs res ex s1
theorem Sp.of_vmE{P:Program}{f:FuncId}{args:List PV}{res:RV}{n np:Nat}{b:GC}{rs:List (Nat × Option Nat)}(hc:zac P f=some ⟨n,np,b.er,rs⟩)(hn:args.length<=n)(h:vm P n (endW rs res) [.code b] (zel args)):Sp P f args res:=by
 obtain⟨ex,s0,r1,s,hw,r2⟩:=zcq _ (yf8 _) h;have key:(ex=.ret\/ex=.normal)/\∃ vs,zbd s rs=some vs/\resP s (resOf vs) res:=by
  cases ex with
  | ret=>exact⟨.inl rfl,r2⟩
  | normal=>exact⟨.inr rfl,r2⟩
  | _=>exact r2.elim
 obtain⟨k1,vs,r3,r4⟩:=key;refine Sp.of_runs hc hn (Runs.weakR r1 hw) k1 r3 ?_;unfold resP at r4;split at r4
 ·exact .pure _ _ r4
 ·split at r4
  ·rename_i sz es s' g off len hv;obtain⟨o,h1,rfl,h2,rfl,h4⟩:=r4;rw[hv];exact .fresh _ _ _ _ _ h1 h2 h4
  ·rename_i hv;rw[hv,r4];exact .nil _
  ·exact r4.elim
 ·exact r4.elim
end Go.Ab
namespace Go.Ab
open Enc (enc)
attribute [local simp] zai Opd.slots
def ratA:PV:=.agg [.fn F.du [],.fn F.ay [],.fn F.gp [],.fn F.dv [],.fn F.lz [],.fn F.ow [],.fn F.lr [],.fn F.mc [],.fn F.ox []]
def polA:PV:=.agg [.fn F.d6 [],.fn F.d7 [],.fn F.nq [],.fn F.d8 [],.fn F.nr [],.fn F.o6 [],.fn F.lr [],.fn F.o7 [],.fn F.o8 []]
def fraB(x:PV):PV:=.agg [.fn F.b9 [],.fn F.ay [],.fn F.gp [],.fn F.d0 [x],.fn F.lz [],.fn F.ky [.ref (.fn F.gp [])],.fn F.dz [],.fn F.mc [],.fn F.oz [x]]
def cosB(x:PV):PV:=.agg [.fn F.bv [],.fn F.bz [],.fn F.lx [],.fn F.b7 [],.fn F.me [],.fn F.ky [.ref (.fn F.lx [])],.fn F.b8 [],.fn F.nm [],.fn F.oy [x]]
def setB(x:PV):PV:=.agg [.fn F.ca [],.fn F.cd [],.fn F.ly [],.fn F.cg [],.fn F.mf [],.fn F.ky [.ref (.fn F.ly [])],.fn F.lr [],.fn F.nn [],.fn F.o5 [x]]
def fraZ:PV:=.agg [.fn F.b9 [],.fn F.ay [],.fn F.gp [],.any,.fn F.lz [],.fn F.ky [.ref (.fn F.gp [])],.fn F.dz [],.fn F.mc [],.any]
def cosZ:PV:=.agg [.fn F.bv [],.fn F.bz [],.fn F.lx [],.fn F.b7 [],.fn F.me [],.fn F.ky [.ref (.fn F.lx [])],.fn F.b8 [],.fn F.nm [],.any]
def setZ:PV:=.agg [.fn F.ca [],.fn F.cd [],.fn F.ly [],.fn F.cg [],.fn F.mf [],.fn F.ky [.ref (.fn F.ly [])],.fn F.lr [],.fn F.nn [],.any]
def fraA:PV:=fraB (.ref fraZ)
def cosA:PV:=cosB (.ref cosZ)
def setA:PV:=setB (.ref setZ)
theorem zge:Sp P F.dq [] (.pure ratA):=by refine Sp.vz c.dq fun _=>?_;simp[g.dq,ratA]
theorem zl4:Sp P F.ke [] (.pure polA):=by refine Sp.vz c.ke fun _=>?_;simp[g.ke,polA]
theorem zq4(f:FuncId):Sp P F.dw [.fn f []] (.pure (.fn F.ky [.ref (.fn f [])])):=by refine Sp.vz c.dw fun _=>?_;simp[g.dw,toPV]
theorem zqe:Sp P F.kb [] (.pure fraA):=by
 refine Sp.of_vmE c.kb (by simp) ?_;simp[g.kb];refine zaa zge rfl ?_;simp[ratA];refine zaa (zq4 F.gp) rfl ?_;simp;refine⟨_,Weak.anyCells (s:=1) (g:=0) [.p fraZ] rfl rfl (by simp[fraZ]) ?_,?_⟩
 ·simp[fraZ,zd9,AV.cells]<;>decide
 simp[toPV,retP,resP,zbd,zi4,resOf,fraA,fraB,St.setObj]
theorem z29:Sp P F.ka [] (.pure cosA):=by
 refine Sp.of_vmE c.ka (by simp) ?_;simp[g.ka];refine zaa (zq4 F.lx) rfl ?_;simp;refine⟨_,Weak.anyCells (s:=1) (g:=0) [.p cosZ] rfl rfl (by simp[cosZ]) ?_,?_⟩
 ·simp[cosZ,zd9,AV.cells]<;>decide
 simp[toPV,retP,resP,zbd,zi4,resOf,cosA,cosB,St.setObj]
theorem z5m:Sp P F.kd [] (.pure setA):=by
 refine Sp.of_vmE c.kd (by simp) ?_;simp[g.kd];refine zaa (zq4 F.ly) rfl ?_;simp;refine⟨_,Weak.anyCells (s:=1) (g:=0) [.p setZ] rfl rfl (by simp[setZ]) ?_,?_⟩
 ·simp[setZ,zd9,AV.cells]<;>decide
 simp[toPV,retP,resP,zbd,zi4,resOf,setA,setB,St.setObj]
def zl7(k:Int):PV:=if k=1 then ratA else if k=2 then cosA else if k=3 then fraA else if k=4 then setA else polA
theorem zle(k:Int)(hk:1<=k/\k<=5):Sp P F.aa [.int .i64 k] (.pure (zl7 k)):=by
 have:k=1\/k=2\/k=3\/k=4\/k=5:=by omega
 rcases this with rfl|rfl|rfl|rfl|rfl
 ·refine Sp.vz c.aa fun _=>?_;simp[g.aa];refine zaa zge rfl ?_;simp[zl7,ratA]
 ·refine Sp.vz c.aa fun _=>?_;simp[g.aa];refine zaa z29 rfl ?_;simp[zl7,cosA,cosB]
 ·refine Sp.vz c.aa fun _=>?_;simp[g.aa];refine zaa zqe rfl ?_;simp[zl7,fraA,fraB]
 ·refine Sp.vz c.aa fun _=>?_;simp[g.aa];refine zaa z5m rfl ?_;simp[zl7,setA,setB]
 ·refine Sp.vz c.aa fun _=>?_;simp[g.aa];refine zaa zl4 rfl ?_;simp[zl7,polA]
theorem zpm(k:Int):Sp P F.gj [.int .i64 k] (.pure (.bool (decide (1<=k/\k<=5)))):=by refine Sp.vz c.gj fun _=>?_;simp[g.gj];refine⟨fun h=>by simp[h],fun h=>by simp[show ¬ 1<=k by omega]⟩
theorem zur(k:Int):Sp P F.gk [.int .i64 k] (.pure (.bool (!decide (1<=k/\k<=5)))):=by refine Sp.vz c.gk fun _=>?_;simp[g.gk];refine zaa (zpm k) rfl ?_;simp
theorem zf4(r:GRing):Sp P F.bs [enc r] (.pure (.bool r.ok)):=by
 refine Sp.vz c.bs fun hok=>?_;simp[g.bs];refine⟨fun h6=>⟨fun h2=>⟨fun h3=>?_,fun h3=>?_⟩,fun h2=>?_⟩,fun h6=>?_⟩
 ·refine zaa (z65 r.parts F.gk [] (fun k => !decide (1<=k/\k<=5)) (by omega) fun k _=>zur k) rfl ?_;have:r.ok = !(r.parts.any fun k => !decide (1<=k/\k<=5)):=by
   rw[yj6];simp only[GRing.ok,yf1 h6,decide_eq_true_eq,yjx,List.any_eq_false];constructor
   ·intro h x hx;have:=h.2.2 x hx;simp[this]
   ·intro h;exact⟨by omega,by omega,fun k hk=>by have:=h k hk;simpa using this⟩
  simp[this]
 ·simp[GRing.ok,h6];intro h;omega
 ·simp[GRing.ok,h6];intro h;omega
 ·refine zaa (zpm r.kind) rfl ?_;by_cases hk:1<=r.kind/\r.kind<=5
  ·simp[hk,GRing.ok,h6]
  ·have:r.ok=false:=by simp only[GRing.ok,yf0 h6,decide_eq_false_iff_not];omega
   simp[hk,this]
theorem zp8(w:GW)(q:GRat)(c:Int)(i:Bool)(s:UInt64)(p:List GMono)(ps:List GW):w=.mk q c i s p ps ↔ w.q=q/\w.cost=c/\w.inf=i/\w.set=s/\w.poly=p/\w.parts=ps:=by cases w;simp[GW.q,GW.cost,GW.inf,GW.set,GW.poly,GW.parts]
theorem zs1(w:GW)(hw:w.sm 1048576):Sp P F.du [enc w] (.pure (.bool (decide (w.si 1)))):=by
 refine Sp.vz c.du fun _=>?_;simp[g.du];refine zaa (zkn w.q (hw.q.mono (by omega))) rfl ?_;rcases yge w.q.valid with hv|hv
 ·simp[hv];refine zaf (zdp w hw (.mk w.q 0 false 0 [] [])) ?_;simp;rw[si1,zp8];simp[hv];exact⟨fun⟨a,b,c,d,e⟩=>⟨e,b,a,c,d⟩,fun⟨e,b,a,c,d⟩=>⟨a,b,c,d,e⟩⟩
 ·have:¬ w.si 1:=fun h=>by have:=(si1.1 h).2.2.2.2.2;rw[hv]at this;cases this
  simp[hv,this]
theorem z1o(w:GW)(hw:w.sm 1048576):Sp P F.d6 [enc w] (.pure (.bool (decide (w.si 5)))):=by
 refine Sp.vz c.d6 fun _=>?_;simp[g.d6];refine zaa (zpv w.poly hw.poly (by have:=hw.len;omega)) rfl ?_;by_cases hv:PVal w.poly
 ·simp[hv];refine zaf (zdp w hw (.mk gr0 0 false 0 w.poly [])) ?_;simp;rw[si5,zp8];simp[hv];exact⟨fun⟨a,b,c,d,e⟩=>⟨e,a,c,b,d⟩,fun⟨e,a,c,b,d⟩=>⟨a,b,c,d,e⟩⟩
 ·have:¬ w.si 5:=fun h=>hv (si5.1 h).2.2.2.2.2;simp[hv,this]
theorem z06(w:GW)(hw:w.sm 1048576):Sp P F.ca [enc w] (.pure (.bool (decide (w.si 4)))):=by refine Sp.vz c.ca fun _=>?_;simp[g.ca];refine zaf (zdp w hw (.mk gr0 0 false w.set [] [])) ?_;simp;rw[si4,zp8];simp;exact⟨fun⟨a,b,c,d,e⟩=>⟨e,a,c,b,d⟩,fun⟨e,a,c,b,d⟩=>⟨a,b,c,d,e⟩⟩
theorem z3c(w:GW)(hw:w.sm 1048576):Sp P F.bv [enc w] (.pure (.bool (decide (w.si 2)))):=by
 refine Sp.vz c.bv fun _=>?_;simp[g.bv];have no:¬ (0<=w.cost/\w.cost<=1099511627776/\(w.inf=true->w.cost=0))->¬ w.si 2:=fun h h2=>h (si2.1 h2).2.2.2.2;refine⟨fun h1=>⟨fun h2=>?_,fun h2=>?_⟩,fun h1=>?_⟩
 ·rcases yge w.inf with hi|hi
  ·simp[hi];refine⟨fun h3=>?_,fun h3=>no (fun h=>h3 (h.2.2 hi))⟩;refine zaa (zdp w hw (.mk gr0 w.cost true 0 [] [])) (by simp[hi]) ?_;simp;rw[si2,zp8];simp[hi,h3];exact⟨fun⟨a,b,c,d⟩=>⟨d,a,b,c⟩,fun⟨d,a,b,c⟩=>⟨a,b,c,d⟩⟩
  ·simp[hi];refine zaa (zdp w hw (.mk gr0 w.cost false 0 [] [])) (by simp[hi]) ?_;simp;rw[si2,zp8];simp[hi,h1,h2];exact⟨fun⟨a,b,c,d⟩=>⟨d,a,b,c⟩,fun⟨d,a,b,c⟩=>⟨a,b,c,d⟩⟩
 ·exact no (by omega)
 ·exact no (by omega)
theorem z5o:Sp P F.ba [.int .i64 1,.int .i64 1] (.pure (.tup [enc (rto 1),.int .i64 0])):=by have h:=zsz 1 1 (by omega) (by omega);have hd:Rat.divInt 1 1=1:=rfl;simp[hd]at h;exact h
theorem zu3:Sp P F.kq [.int .i64 1] (.pure (enc (.mk (rto 1) 0 false 0 [] []:GW))):=by refine Sp.vz c.kq fun _=>?_;simp[g.kq];refine zaa z5o rfl ?_;simp
theorem z91{x y:Rat}:x<y ↔ (x - y).num<0:=by
 rw[Rat.lt_iff_sub_pos];have:(x - y) = -(y - x):=by rw[Rat.neg_sub]
 rw[this,Rat.neg_num];have h1:0<=y - x ↔ 0<=(y - x).num:=Rat.num_nonneg.symm;have h2:(y - x)=0 ↔ (y - x).num=0:=Rat.num_eq_zero.symm;rw[Rat.lt_iff_le_and_ne,h1,ne_comm,Ne,h2];omega
theorem z1y(x y:Rat):(x - y).num = -(y - x).num:=by
 have:(x - y) = -(y - x):=by rw[Rat.neg_sub]
 rw[this,Rat.neg_num]
theorem zwt{x y:Rat}:0<sgnR (x - y) ↔ y<x:=by rw[z91];have:=z1y x y;unfold sgnR;(repeat' split)<;>omega
theorem z9f{x y:Rat}:sgnR (x - y)<=0 ↔ x<=y:=by rw[<- Rat.not_lt,<- zwt];omega
theorem z2k(w:GW)(hw:w.sm 1048576):Sp P F.b9 [enc w] (.pure (.bool (decide (w.si 3)))):=by
 refine Sp.vz c.b9 fun _=>?_;simp[g.b9];refine zaa zge rfl ?_;simp[ratA];refine zaf (zs1 w hw) ?_;have i3:w.si 3 ↔ w.si 1/\0<=w.q.v/\w.q.v<=1:=by rw[si3,si1];exact⟨fun⟨a,b,c,d,e,f,g,h⟩=>⟨⟨a,b,c,d,e,f⟩,g,h⟩,fun⟨⟨a,b,c,d,e,f⟩,g,h⟩=>⟨a,b,c,d,e,f,g,h⟩⟩
 by_cases h1:w.si 1
 ·simp[h1];refine zaa (zjx w.q (hw.q.mono (by omega))) rfl ?_;simp;refine⟨fun h2=>?_,fun h2=>?_⟩
  ·refine zaa zu3 rfl ?_;simp;refine zaa (zkt w.q (rto 1) hw.q (z5p.mono (by omega))) rfl ?_;simp;rw[zhi];have a1:=zkm.1 h2;rw[z9f,i3];simp[h1,a1]
  ·have:¬ 0<=w.q.v:=fun h=>by have:=zkm.2 h;omega
   simp[i3,this]
 ·simp[i3,h1]
def zc5(k:Int):GW:=.mk gr0 0 (decide (k=2)) 0 [] []
def GRing.zero(r:GRing):GW:=if r.ok then .mk gr0 0 (decide (r.kind=2)) 0 [] (r.parts.map zc5)else gw0
theorem z4v(r:GRing)(h:r.parts=[]):Sp P F.a7 [enc r] (.pure (enc r.zero)):=by
 refine Sp.vz c.a7 fun _=>?_;simp[g.a7];refine zaa (zpa r) rfl ?_;rcases yge r.ok with hr0|hr0;rotate_left
 ·simp[hr0,GRing.zero,gw0]
 simp[hr0];refine zbr fun R hn hr hx=>?_;simp[g.n4,h];refine hx _ _ ?_;simp[hr0,GRing.zero,h]
theorem z0f(r:GRing):Sp P F.a7 [enc r] (.pure (enc r.zero)):=by
 refine Sp.vz c.a7 fun _=>?_;simp[g.a7];refine zaa (zpa r) rfl ?_;rcases yge r.ok with hr0|hr0;rotate_left
 ·simp[hr0,GRing.zero,gw0]
 simp[hr0]
 refine zaj (S:=fun k:Nat=>mkSt [(1,.ptr 1 0 0 0),(2,.ptr 2 0 0 0),(3,.ptr 3 0 0 0),(4,.p (.int .i64 k))]
   [(1,⟨2,[.p (enc r)]⟩),(2,⟨8,[.agg [.p (.bool false),.nil,.nil,.p (.int .i64 0),.p (.bool false),.p (.int .u64 0),.nil,.nil]]⟩),
    (3,⟨8,[.agg [.p (.bool false),.nil,.nil,.p (.int .i64 0),.p (.bool (decide (r.kind=2))),.p (.int .u64 0),.nil,.own 4 0 0 k]]⟩),(4,⟨8,avs ((r.parts.map zc5).take k)⟩)])
  (I:=fun k=>k<=r.parts.length) (m:=fun k=>r.parts.length - k) 0
  ((Weak.nilCell (s0:=3) (g0:=0) (i:=7) (s:=77) (sz:=8) rfl).trans (Weak.to [1,2,3,4] [((1,0),1),((2,0),2),((3,0),3),((77,0),4)] (by simp))) (by omega) ?_
 rintro k h1 R hn hr hx;have hlen:r.parts.length<=3:=by
  by_cases h6:r.kind=6
  ·exact(GRing.ok_parts hr0 h6).2.1
  ·simp[(GRing.ok_kind hr0 h6).2.2]
 have e1:=i64s k;simp[g.n4,mkSt];refine⟨fun hk=>?_,fun hk=>hx _ _ ?_⟩
 ·have h6:r.kind=6:=by
   by_cases h6:r.kind=6
   ·exact h6
   ·have:=(GRing.ok_kind hr0 h6).2.2;rw[this]at hk;simp at hk
  have hpk:=(GRing.ok_parts hr0 h6).2.2 _ (yfi hk);refine zaa (z1v r k hk) rfl ?_;simp;refine zaa (z4v ⟨r.parts[k],[]⟩ rfl) rfl ?_;have hz:(⟨r.parts[k],[]⟩:GRing).zero=zc5 r.parts[k]:=by
   have h7:r.parts[k]≠6:=by omega
   simp[GRing.zero,GRing.ok,h7,hpk,zc5]
  have hk':k<(r.parts.map zc5).length:=by simpa using hk
  rw[hz];simp[e1];refine⟨by omega,hn (k+1) _ (Weak.to [1,2,3,4] [((1,0),1),((2,0),2),((3,0),3),((28,0),4)] (by simp[yfu hk',zd7])) (by omega) (by omega)⟩
 ·have:k=r.parts.length:=by omega
  subst this;have ht:(r.parts.map zc5).take r.parts.length=r.parts.map zc5:=by rw[yfw (by simp)]
  simp[hr0,GRing.zero];simp only[ht]
noncomputable def GW.tk(r:GRing)(w:GW):GW:=if w.chk r then w else r.zero
theorem zyx:gr0.valid=true:=by have:=ze2 0;rw[zec]at this;exact this
theorem si_p{k:Int}{w:GW}(h:w.si k):PVal w.poly:=by
 by_cases h1:k=5
 ·exact h.2.2.2.2.2.2.2.2 h1
 ·rw[h.2.2.2.2.1 h1];exact zrm
theorem ybd{r:GRing}{w:GW}(h:w.chk r):PVal w.poly:=by
 by_cases h6:r.kind=6
 ·have:=(h.2.2 h6).2.1;rw[this];exact zrm
 ·exact si_p (h.2.1 h6)
theorem z9w{k:Int}(h:1<=k/\k<=5):(⟨k,[]⟩:GRing).ok=true:=by
 have h7:k≠6:=by omega
 simp[GRing.ok,h7,h]
theorem zuk{r:GRing}{w:GW}(h:w.chk r)(h6:r.kind=6){i:Nat}(hi:i<r.parts.length)(hi':i<w.parts.length):w.parts[i].chk ⟨r.parts[i],[]⟩:=by have hp:=(GRing.ok_parts h.1 h6).2.2 _ (yfi hi);refine⟨z9w hp,fun _=>(h.2.2 h6).2.2 i hi hi',fun h'=>?_⟩;simp at h';omega
def kF(a b c d e:FuncId)(k:Int):FuncId:=if k=1 then a else if k=2 then b else if k=3 then c else if k=4 then d else e
def kF0:=kF F.du F.bv F.b9 F.ca F.d6
def kF1:=kF F.ay F.bz F.ay F.cd F.d7
def kF2:=kF F.gp F.lx F.gp F.ly F.nq
def kF3:=kF F.dv F.b7 F.d0 F.cg F.d8
def kC3(k:Int):List PV:=if k=3 then[.ref fraZ]else[]
def kF4:=kF F.lz F.me F.lz F.mf F.nr
theorem zfp(k:Int)(hk:1<=k/\k<=5):∃ f5 f6 f7 f8 c5 c8,zl7 k=.agg [.fn (kF0 k) [],.fn (kF1 k) [],.fn (kF2 k) [],.fn (kF3 k) (kC3 k),.fn (kF4 k) [],.fn f5 c5,.fn f6 [],.fn f7 [],.fn f8 c8]:=by
 have:k=1\/k=2\/k=3\/k=4\/k=5:=by omega
 rcases this with rfl|rfl|rfl|rfl|rfl<;>exact⟨_,_,_,_,_,_,rfl⟩
theorem zzv(k:Int)(hk:1<=k/\k<=5)(w:GW)(hw:w.sm 1048576):Sp P (kF0 k) [enc w] (.pure (.bool (decide (w.si k)))):=by
 have:k=1\/k=2\/k=3\/k=4\/k=5:=by omega
 rcases this with rfl|rfl|rfl|rfl|rfl
 ·exact zs1 w hw
 ·exact z3c w hw
 ·exact z2k w hw
 ·exact z06 w hw
 ·exact z1o w hw
theorem zs0:Sp P F.ay [] (.pure (enc (.mk gr0 0 false 0 [] []:GW))):=by refine Sp.vz c.ay fun _=>?_;simp[g.ay]
theorem z05:Sp P F.cd [] (.pure (enc (.mk gr0 0 false 0 [] []:GW))):=by refine Sp.vz c.cd fun _=>?_;simp[g.cd]
theorem z1n:Sp P F.d7 [] (.pure (enc (.mk gr0 0 false 0 [] []:GW))):=by refine Sp.vz c.d7 fun _=>?_;simp[g.d7]
theorem z3b:Sp P F.bz [] (.pure (enc (.mk gr0 0 true 0 [] []:GW))):=by refine Sp.vz c.bz fun _=>?_;simp[g.bz]
theorem zsh(k:Int)(hk:1<=k/\k<=5):Sp P (kF1 k) [] (.pure (enc (zc5 k))):=by
 have:k=1\/k=2\/k=3\/k=4\/k=5:=by omega
 rcases this with rfl|rfl|rfl|rfl|rfl
 ·exact zs0
 ·exact z3b
 ·exact zs0
 ·exact z05
 ·exact z1n
theorem zzm(r:GRing)(hp:∀ k∈r.parts,1<=k/\k<=5)(hl:r.parts.length<=3)(f:FuncId)(caps:List PV)(out:List GW)(ho:out.length=r.parts.length)
  (hf:∀ i,(h:i<r.parts.length)->(h':i<out.length)->Sp P f (zl7 r.parts[i]::.int .i64 i::caps) (.pure (enc out[i]))) :
  Sp P F.f9 [enc r,.fn f caps] (.pure (enc (.mk gr0 0 false 0 [] out:GW))):=by
 refine Sp.vz c.f9 fun _=>?_;simp[g.f9]
 refine zaj (S:=fun k:Nat=>mkSt [(1,.p (.fn f caps)),(4,.ptr 1 0 0 0),(5,.ptr 2 0 0 0),(9,.p (.sl (ens r.parts))),(10,.p (.int .i64 r.parts.length)),(11,.p (.int .i64 k))]
   [(1,⟨8,[.agg [.p (.bool false),.nil,.nil,.p (.int .i64 0),.p (.bool false),.p (.int .u64 0),.nil,.nil]]⟩),
    (2,⟨8,[.agg [.p (.bool false),.nil,.nil,.p (.int .i64 0),.p (.bool false),.p (.int .u64 0),.nil,.own 3 0 0 k]]⟩),(3,⟨8,avs (out.take k)⟩)])
  (I:=fun k=>k<=r.parts.length) (m:=fun k=>r.parts.length - k) 0
  ((Weak.nilCell (s0:=5) (g0:=0) (i:=7) (s:=77) (sz:=8) rfl).trans (Weak.to [1,4,5,9,10,11] [((4,0),1),((5,0),2),((77,0),3)] (by simp))) (by omega) ?_
 rintro k h1 R hn hr hx;have e1:=i64s k;simp[g.qf,mkSt];refine⟨fun hk=>?_,fun hk=>hx _ _ ?_⟩
 ·have hk':k<out.length:=by omega
  refine zad hk ?_
  try simp
  refine zaa (zle r.parts[k] (hp _ (yfi hk))) rfl ?_;obtain⟨f5,f6,f7,f8,c5,c8,hA⟩:=zfp r.parts[k] (hp _ (yfi hk));have hf':=hf k hk hk';rw[hA]at hf';simp[hA];refine zaa hf' (zb5 rfl (zb5 rfl (zfm _ _))) ?_;have hts:avs (out.take (k+1))=avs (out.take k)++[.p (enc out[k])]:=by rw[yfu hk',zd7];rfl
  simp[e1];exact⟨⟨by omega,by omega⟩,hn (k+1) _ (Weak.to [1,4,5,9,10,11] [((1,0),1),((2,0),2),((24,0),3)] (by simp[hts])) (by omega) (by omega)⟩
 ·have:k=out.length:=by omega
  subst this;simp
end Go.Ab
