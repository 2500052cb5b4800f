/- Lemmas for the law AmbiguityCounts, part 29. No conditions. -/
import Derived.Test.YtcemegnnejaahaaGreatDoorDP28
set_option maxRecDepth 100000
set_option maxHeartbeats 4000000
set_option linter.all false
namespace Go.Ab
open Enc (enc)
attribute [local simp] zai Opd.slots
structure DetA (a:GAuto) (n:Nat):Prop where
 hn:n<=90
 hn1:3<=n
 sm:a.sm n
 al:a.arcs.length<=19
 ok:a.ok
 eps:∀ x∈a.nf.arcs,x.l≠0
 adj:yew a.nf.arcs
 beg:begC a.nf a.st.toNat<=1
theorem ydx{x y:GArc}(h:x.key<y.key):x.f<=y.f:=by unfold GArc.key at h;rw[ykc]at h;omega
noncomputable abbrev stN(a:GAuto):Int:=stA a.nf a.st.toNat
theorem zo7(w:List Int)(m:Int)(hl:w.length<=9223372036854775807):Sp P F.eb [.sl (ens w),.int .i64 m] (.pure (.bool (decide ((1<=m/\m<=32)/\w.length<=256/\∀ x∈w,1<=x/\x<=m)))):=by
 refine Sp.vz c.eb fun _=>?_;simp[g.eb]
 refine zaj (S:=fun k:Nat=>mkSt [(0,.p (.sl (ens w))),(1,.p (.int .i64 m)),(7,.p (.sl (ens w))),(8,.p (.int .i64 w.length)),(9,.p (.int .i64 k))] []) (I:=fun k=>k<=w.length/\∀ i,(h:i<w.length)->i<k->1<=w[i]/\w[i]<=m) (m:=fun k=>w.length - k) 0
  (Weak.to [0,1,7,8,9] [] (by simp)) ⟨by omega,fun i _ h=>by omega⟩ ?_
 rintro k ⟨h1,h2⟩ R hn hr hx;simp[g.pe,mkSt];refine⟨fun hk=>zad hk ?_,fun hk=>hx _ _ ?_⟩
 ·have e1:=i64s k;have hf:∀ h:w[k]<1\/m<w[k],¬ ∀ x∈w,1<=x/\x<=m:=fun h hh=>by have:=hh w[k] (yfi hk);omega
  refine⟨fun h=>hr _ (by simp[hf (.inl h)]),fun h=>⟨fun h'=>hr _ (by simp[hf (.inr h')]),fun h'=>hn (k+1) _ (Weak.to [0,1,7,8,9] [] (by simp[e1])) ⟨by omega,fun i hi hik=>?_⟩ (by omega)⟩⟩;by_cases e:i=k
  ·subst e;exact⟨h,h'⟩
  ·exact h2 i hi (by omega)
 ·have hk':k=w.length:=by omega
  have ha:∀ x∈w,1<=x/\x<=m:=fun x hx=>by obtain⟨i,hi,rfl⟩:=yjp.1 hx;exact h2 i hi (by omega)
  have hd:decide (∀ x∈w,1<=x/\x<=m)=true:=decide_eq_true ha;simp[hd];refine⟨fun h1=>⟨fun h2=>by simp[h1,h2];omega,fun h2 _ h3=>by omega⟩,fun h1 h2=>by omega⟩
end Go.Ab
