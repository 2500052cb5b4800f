/-
Proofs for the law CountIsFinite, part 26. Conditions: none.
-/
import Derived.Test.YtdkocfjbmbenfaaGreatDoorDP25
import Derived.Test.YtdkocfjbmbenfaaGreatDoorDP23
import Derived.Test.YtdkocfjbmbenfaaGreatDoorDP12
set_option maxRecDepth 100000
set_option maxHeartbeats 4000000
set_option linter.all false
namespace Go.Ab
section
variable {α : Type} (key : α -> List Int) (up : α -> α -> α) (nw : α -> α)
def mst (out:List α) (y : α):List α :=
 match out with
 | []=>[nw y]
 | [z]=>if key z=key y then [up z y] else [z,nw y]
 | z::r=>z::mst r y
def mrg (l:List α):List α := l.foldl (mst key up nw) []
def insR (s:List α) (x : α):List α :=
 match s with
 | []=>[x]
 | z::r=>if key x<key z then x::z::r else z::insR r x
def insF (out:List α) (x : α):List α :=
 match out with
 | []=>[nw x]
 | z::r=>if key z<key x then z::insF r x else if key z=key x then up z x::r else nw x::z::r
def srt (l:List α):List α := l.foldl (insR key) []
def nfm (l:List α):List α := l.foldl (insF key up nw) []
variable {key up nw} (hup:∀ a b,key (up a b)=key a) (hnw:∀ a,key (nw a)=key a)
theorem zn8 (a b:List Int):a<b\/a=b\/b<a:=by
 by_cases h:a<b
 ·exact .inl h
 ·by_cases h2:b<a
  ·exact .inr (.inr h2)
  ·exact .inr (.inl (List.le_antisymm (List.not_lt.1 h2) (List.not_lt.1 h)))
theorem zyb {a b c:List Int} (h:¬ b<a) (k:b<c):a<c:=by
 rcases zn8 a b with h1|h1|h1
 ·exact List.lt_trans h1 k
 ·rw [h1]; exact k
 ·exact absurd h1 h
theorem zk4 {a b c:List Int} (h:a<b) (k:¬ c<b):a<c:=by
 rcases zn8 b c with h1|h1|h1
 ·exact List.lt_trans h h1
 ·rw [<- h1]; exact h
 ·exact absurd h1 k
theorem z72 (out:List α) (y : α):mst key up nw out y≠[]:=by
 match out with
 | []=>simp [mst]
 | [z]=>simp only [mst]; split<;>simp
 | z::w::r=>simp [mst]
theorem zkt (z : α) {r:List α} (y : α) (h:r≠[]):mst key up nw (z::r) y=z::mst key up nw r y:=by
 match r with
 | []=>exact absurd rfl h
 | w::r=>rfl
theorem znz (o:List α) {r:List α} (y : α) (h:r≠[]):mst key up nw (o++r) y=o++mst key up nw r y:=by
 induction o with
 | nil=>rfl
 | cons z o ih=>rw [List.cons_append,zkt z y (by simp [h]),ih]; rfl
theorem ztr (o:List α):∀ (l:List α) {r:List α},r≠[]->l.foldl (mst key up nw) (o++r)=o++l.foldl (mst key up nw) r
 | [],r,_=>rfl
 | y::l,r,h=>by
  simp only [List.foldl_cons]
  rw [znz o y h]
  exact ztr o l (z72 r y)
include hup hnw in
theorem zny (out:List α) (y : α):∃ o z,mst key up nw out y=o++[z]/\key z=key y:=by
 match out with
 | []=>exact ⟨[],nw y,rfl,hnw y⟩
 | [z] =>
  simp only [mst]
  split
  ·rename_i h; exact ⟨[],up z y,rfl,by rw [hup,h]⟩
  ·exact ⟨[z],nw y,rfl,hnw y⟩
 | z::w::r =>
  obtain ⟨o,u,h1,h2⟩:=zny (w::r) y
  exact ⟨z::o,u,by rw [zkt z y (by simp),h1]; rfl,h2⟩
theorem znx {o:List α} {z y : α} (h:key z≠key y):mst key up nw (o++[z]) y=o++[z,nw y]:=by
 rw [znz o y (by simp)]; simp [mst,h]
theorem zrd {o:List α} {z y : α} (h:key z=key y):mst key up nw (o++[z]) y=o++[up z y]:=by
 rw [znz o y (by simp)]; simp [mst,h]
theorem ztq {o:List α} {z : α} {B:List α} (h:∀ b∈B,key z≠key b):B.foldl (mst key up nw) (o++[z])=o++[z]++mrg key up nw B:=by
 cases B with
 | nil=>simp [mrg]
 | cons b B =>
  simp only [List.foldl_cons,mrg]
  rw [znx (h b (by simp))]
  have:o++[z,nw b]=(o++[z])++[nw b]:=by simp
  rw [this,ztr (o++[z]) B (by simp)]
  rfl
def Srt (key : α -> List Int) (l:List α):Prop:=l.Pairwise fun a b=>¬ key b<key a
def SSrt (key : α -> List Int) (l:List α):Prop:=l.Pairwise fun a b=>key a<key b
theorem zs8 (l:List α) (y : α):mrg key up nw (l++[y])=mst key up nw (mrg key up nw l) y:=by simp [mrg,List.foldl_append]
include hup hnw in
theorem zgp:∀ (n:Nat) (l:List α),l.length=n->Srt key l->SSrt key (mrg key up nw l)/\(∀ z∈mrg key up nw l,∃ y∈l,key z=key y)/\(l=[]\/∃ o z o' y,mrg key up nw l=o++[z]/\l=o'++[y]/\key z=key y)
 | 0,l,hl,_=>by
  have:l=[]:=List.eq_nil_of_length_eq_zero hl
  subst this
  exact ⟨by simp [mrg,SSrt],by simp [mrg],.inl rfl⟩
 | n+1,l,hl,hs=>by
  obtain ⟨l',y,rfl⟩:∃ l' y,l=l'++[y]:=⟨l.dropLast,l.getLast (by intro h; simp [h] at hl),(List.dropLast_concat_getLast _).symm⟩
  have hl':l'.length=n:=by simpa using hl
  have hs':Srt key l':=(List.pairwise_append.1 hs).1
  have hle:∀ a∈l',¬ key y<key a:=fun a ha=>(List.pairwise_append.1 hs).2.2 a ha y (by simp)
  obtain ⟨i1,i2,i3⟩:=zgp n l' hl' hs'
  rw [zs8]
  obtain ⟨o,u,e1,e2⟩:=zny hup hnw (mrg key up nw l') y
  refine ⟨?_,?_,.inr ⟨o,u,l',y,e1,rfl,e2⟩⟩
  ·rcases i3 with rfl|⟨o1,z,o',y',f1,f2,f3⟩
   ·simp [mrg,mst,SSrt]
   ·rw [f1] at i1 ⊢
    have g:=List.pairwise_append.1 i1
    by_cases hk:key z=key y
    ·rw [zrd hk]
     refine List.pairwise_append.2 ⟨g.1,by simp,fun a ha b hb=>?_⟩
     simp only [List.mem_singleton] at hb; subst hb
     rw [hup]; exact g.2.2 a ha z (by simp)
    ·rw [znx hk]
     have hzy:key z<key y:=by
      rcases zn8 (key z) (key y) with h|h|h
      ·exact h
      ·exact absurd h hk
      ·rw [f3] at h; exact absurd h (hle y' (by rw [f2]; simp))
     refine List.pairwise_append.2 ⟨g.1,by simp [hnw,hzy],fun a ha b hb=>?_⟩
     have haz:=g.2.2 a ha z (by simp)
     simp only [List.mem_cons,List.not_mem_nil,or_false] at hb
     rcases hb with rfl|rfl
     ·exact haz
     ·rw [hnw]; exact List.lt_trans haz hzy
  ·intro z hz
   rcases i3 with rfl|⟨o1,z1,o',y',f1,f2,f3⟩
   ·simp [mrg,mst] at hz; subst hz; exact ⟨y,by simp,hnw y⟩
   ·rw [f1] at hz
    by_cases hk:key z1=key y
    ·rw [zrd hk] at hz
     rcases List.mem_append.1 hz with h|h
     ·obtain ⟨q,q1,q2⟩:=i2 z (by rw [f1]; simp [h])
      exact ⟨q,by simp [q1],q2⟩
     ·simp at h; subst h; exact ⟨y,by simp,by rw [hup,hk]⟩
    ·rw [znx hk] at hz
     simp only [List.mem_append,List.mem_cons,List.not_mem_nil,or_false] at hz
     rcases hz with h|rfl|rfl
     ·obtain ⟨q,q1,q2⟩:=i2 z (by rw [f1]; simp [h])
      exact ⟨q,by simp [q1],q2⟩
     ·obtain ⟨q,q1,q2⟩:=i2 z (by rw [f1]; simp)
      exact ⟨q,by simp [q1],q2⟩
     ·exact ⟨y,by simp,hnw y⟩
include hnw in
theorem zod {x : α} {B:List α} (hB:∀ b∈B,key x<key b):∀ (A:List α),SSrt key A->(∀ a∈A,¬ key x<key a)->insF key up nw (A++B) x=mst key up nw A x++B
 | [],_,_=>by
  cases B with
  | nil=>rfl
  | cons b B =>
   have h:=hB b (by simp)
   have h1:¬ key b<key x:=List.lt_asymm h
   have h2:key b≠key x:=fun e=>by rw [e] at h; exact List.lt_irrefl _ h
   simp [insF,mst,h1,h2]
 | [z],hs,hle=>by
  rcases zn8 (key z) (key x) with h|h|h
  ·have hne:key z≠key x:=fun e=>by rw [e] at h; exact List.lt_irrefl _ h
   have:=zod hB [] (by simp [SSrt]) (by simp)
   simp only [List.nil_append,mst] at this
   simp [insF,mst,h,hne,this]
  ·have h2:¬ key x<key x:=List.lt_irrefl _
   simp [insF,mst,h,h2]
  ·exact absurd h (hle z (by simp))
 | z::w::r,hs,hle=>by
  have hs2:=List.pairwise_cons.1 hs
  have hzx:key z<key x:=zk4 (hs2.1 w (by simp)) (hle w (by simp))
  have ih:=zod hB (w::r) hs2.2 (fun a ha=>hle a (by simp [ha]))
  rw [zkt z x (by simp)]
  simp only [List.cons_append,insF,hzx,if_true] at ih ⊢
  rw [<- ih]
theorem zip (x : α):∀ (s:List α),Srt key s->∃ A B,s=A++B/\insR key s x=A++x::B/\(∀ a∈A,¬ key x<key a)/\(∀ b∈B,key x<key b)
 | [],_=>⟨[],[],rfl,rfl,by simp,by simp⟩
 | z::r,hs=>by
  have hs2:=List.pairwise_cons.1 hs
  by_cases h:key x<key z
  ·refine ⟨[],z::r,rfl,by simp [insR,h],by simp,fun b hb=>?_⟩
   rcases List.mem_cons.1 hb with rfl|hb
   ·exact h
   ·exact zk4 h (hs2.1 b hb)
  ·obtain ⟨A,B,h1,h2,h3,h4⟩:=zip x r hs2.2
   exact ⟨z::A,B,by rw [h1]; rfl,by simp [insR,h,h2],fun a ha=>by
    rcases List.mem_cons.1 ha with rfl|ha
    ·exact h
    ·exact h3 a ha,h4⟩
theorem zk6 {x : α} {s:List α} (hs:Srt key s):Srt key (insR key s x):=by
 obtain ⟨A,B,h1,h2,h3,h4⟩:=zip x s hs
 rw [h2]
 rw [h1] at hs
 have g:=List.pairwise_append.1 hs
 refine List.pairwise_append.2 ⟨g.1,List.pairwise_cons.2 ⟨fun b hb=>List.lt_asymm (h4 b hb),g.2.1⟩,fun a ha b hb=>?_⟩
 rcases List.mem_cons.1 hb with rfl|hb
 ·exact h3 a ha
 ·exact g.2.2 a ha b hb
include hup hnw in
theorem z1c {x : α} {s:List α} (hs:Srt key s):mrg key up nw (insR key s x)=insF key up nw (mrg key up nw s) x:=by
 obtain ⟨A,B,h1,h2,h3,h4⟩:=zip x s hs
 subst h1
 have g:=List.pairwise_append.1 hs
 obtain ⟨a1,a2,a3⟩:=zgp hup hnw A.length A rfl g.1
 obtain ⟨b1,b2,b3⟩:=zgp hup hnw B.length B rfl g.2.1
 have hBk:∀ b∈mrg key up nw B,key x<key b:=fun b hb=>by
  obtain ⟨y,y1,y2⟩:=b2 b hb
  rw [y2]; exact h4 y y1
 have e1:mrg key up nw (A++B)=mrg key up nw A++mrg key up nw B:=by
  rcases a3 with rfl|⟨o,z,o',y,f1,f2,f3⟩
  ·simp [mrg]
  ·have:mrg key up nw (A++B)=B.foldl (mst key up nw) (mrg key up nw A):=by simp [mrg,List.foldl_append]
   rw [this,f1]
   refine ztq fun b hb=>?_
   have hlt:key z<key b:=by rw [f3]; exact zyb (h3 y (by rw [f2]; simp)) (h4 b hb)
   intro e; rw [e] at hlt; exact List.lt_irrefl _ hlt
 have e2:mrg key up nw (A++x::B)=mst key up nw (mrg key up nw A) x++mrg key up nw B:=by
  have:mrg key up nw (A++x::B)=B.foldl (mst key up nw) (mst key up nw (mrg key up nw A) x):=by simp [mrg,List.foldl_append]
  rw [this]
  obtain ⟨o,u,f1,f2⟩:=zny hup hnw (mrg key up nw A) x
  rw [f1]
  refine ztq fun b hb=>?_
  intro e; have:=h4 b hb; rw [<- f2,e] at this; exact List.lt_irrefl _ this
 rw [h2,e1,e2]
 exact (zod hnw hBk _ a1 (fun a ha=>by
  obtain ⟨y,y1,y2⟩:=a2 a ha
  rw [y2]; exact h3 y y1)).symm
include hup hnw in
theorem z4p (l:List α):mrg key up nw (srt key l)=nfm key up nw l/\Srt key (srt key l):=by
 have key':∀ (l s:List α),Srt key s->mrg key up nw (l.foldl (insR key) s)=l.foldl (insF key up nw) (mrg key up nw s)/\Srt key (l.foldl (insR key) s):=by
  intro l
  induction l with
  | nil=>intro s hs; exact ⟨rfl,hs⟩
  | cons x l ih =>
   intro s hs
   simp only [List.foldl_cons]
   rw [<- z1c hup hnw hs]
   exact ih _ (zk6 hs)
 exact key' l [] (by simp [Srt])
end
end Go.Ab
namespace Go.Ab
def lexI:List Int->List Int->Int
 | x::xs,y::ys=>if x<y then -1 else if y<x then 1 else lexI xs ys
 | _,_=>0
theorem zx4:∀ {a b:List Int},a.length=b.length->(lexI a b<0 ↔ a<b)
 | [],[],_=>by simp [lexI]
 | x::xs,y::ys,h=>by
  have ih:=zx4 (a:=xs) (b:=ys) (by simpa using h)
  simp only [lexI,List.cons_lt_cons_iff]
  by_cases h1:x<y
  ·simp [h1]
  ·by_cases h2:y<x
   ·simp [h1,h2]; omega
   ·have:x=y:=by omega
    subst this; simp [ih]
theorem zx5:∀ {a b:List Int},a.length=b.length->(lexI a b=0 ↔ a=b)
 | [],[],_=>by simp [lexI]
 | x::xs,y::ys,h=>by
  have ih:=zx5 (a:=xs) (b:=ys) (by simpa using h)
  simp only [lexI,List.cons.injEq]
  by_cases h1:x<y
  ·simp [h1]; omega
  ·by_cases h2:y<x
   ·simp [h1,h2]; omega
   ·have:x=y:=by omega
    subst this; simp [ih]
def cmpI (x y:Int):Int:=if x<y then -1 else if y<x then 1 else 0
end Go.Ab
namespace Go.Ab
open Enc (enc)
structure GArc where
 f:Int
 l:Int
 t:Int
 w:GW
structure GTArc where
 f:Int
 i:Int
 o:Int
 t:Int
 w:GW
def GW.cl (w:GW):List PV:=[.bool w.q.neg,.sl (ens w.q.num),.sl (ens w.q.den),.int .i64 w.cost,.bool w.inf,.int .u64 w.set.toNat,.sl (ens w.poly),.sl (ens w.parts)]
instance:Enc GArc:=⟨fun x=>.agg ([.int .i64 x.f,.int .i64 x.l,.int .i64 x.t]++x.w.cl),11,by decide,fun _=>rfl⟩
instance:Enc GTArc:=⟨fun x=>.agg ([.int .i64 x.f,.int .i64 x.i,.int .i64 x.o,.int .i64 x.t]++x.w.cl),12,by decide,fun _=>rfl⟩
@[go_sem] theorem ybv (x:GArc):enc x=.agg [.int .i64 x.f,.int .i64 x.l,.int .i64 x.t,.bool x.w.q.neg,.sl (ens x.w.q.num),.sl (ens x.w.q.den),.int .i64 x.w.cost,.bool x.w.inf,.int .u64 x.w.set.toNat,.sl (ens x.w.poly),.sl (ens x.w.parts)]:=rfl
@[go_sem] theorem z9q (x:GTArc):enc x=.agg [.int .i64 x.f,.int .i64 x.i,.int .i64 x.o,.int .i64 x.t,.bool x.w.q.neg,.sl (ens x.w.q.num),.sl (ens x.w.q.den),.int .i64 x.w.cost,.bool x.w.inf,.int .u64 x.w.set.toNat,.sl (ens x.w.poly),.sl (ens x.w.parts)]:=rfl
@[go_sem] theorem z8f:Enc.sz GArc=11:=rfl
@[go_sem] theorem z6e:Enc.sz GTArc=12:=rfl
structure GAuto where
 ring:GRing
 sy:Int
 st:Int
 ini:List GW
 fin:List GW
 arcs:List GArc
structure GTrans where
 ring:GRing
 i:Int
 o:Int
 st:Int
 ini:List GW
 fin:List GW
 arcs:List GTArc
instance:Enc GAuto:=⟨fun x=>.agg [.int .i64 x.ring.kind,.sl (ens x.ring.parts),.int .i64 x.sy,.int .i64 x.st,.sl (ens x.ini),.sl (ens x.fin),.sl (ens x.arcs)],7,by decide,fun _=>rfl⟩
instance:Enc GTrans:=⟨fun x=>.agg [.int .i64 x.ring.kind,.sl (ens x.ring.parts),.int .i64 x.i,.int .i64 x.o,.int .i64 x.st,.sl (ens x.ini),.sl (ens x.fin),.sl (ens x.arcs)],8,by decide,fun _=>rfl⟩
@[go_sem] theorem z9w (x:GAuto):enc x=.agg [.int .i64 x.ring.kind,.sl (ens x.ring.parts),.int .i64 x.sy,.int .i64 x.st,.sl (ens x.ini),.sl (ens x.fin),.sl (ens x.arcs)]:=rfl
@[go_sem] theorem z8g (x:GTrans):enc x=.agg [.int .i64 x.ring.kind,.sl (ens x.ring.parts),.int .i64 x.i,.int .i64 x.o,.int .i64 x.st,.sl (ens x.ini),.sl (ens x.fin),.sl (ens x.arcs)]:=rfl
@[go_sem] theorem z6l:Enc.sz GAuto=7:=rfl
@[go_sem] theorem z5f:Enc.sz GTrans=8:=rfl
def GArc.key (x:GArc):List Int:=[x.f,x.l,x.t]
end Go.Ab
namespace Go.Ab
open Enc (enc)
attribute [local go_sem] zal Opd.slots
theorem zk8 (l:List GW) (f:FuncId) (caps:List PV) (p:GW->Bool) (hl:l.length<=4611686018427387904) (hf:∀ x∈l,Sp P f (enc x::caps) (.pure (.bool (p x)))) :
  Sp P F.jw [.sl (ens l),.fn f caps] (.pure (.int .i64 (idxI p l))):=by
 refine Sp.vz c.jw fun _=>?_
 simp [g.jw,go_sem]
 refine zai (S:=fun k:Nat=>mkSt [(0,.p (.sl (ens l))),(1,.p (.fn f caps)),(7,.p (.int .i64 l.length)),(8,.p (.int .i64 k))] []) (I:=fun k=>k<=l.length/\∀ x∈l.take k,p x=false) (m:=fun k=>l.length - k) 0
  (Weak.to [0,1,7,8] [] (by simp [go_sem])) ⟨by omega,by simp⟩ ?_
 rintro k ⟨h1,h2⟩ R hn hr hx
 have e1:=i64s k (by omega)
 simp [g.pe,mkSt,go_sem]
 refine ⟨fun hk=>?_,fun hk=>hx _ _ ?_⟩
 ·refine zae hk ?_
  try simp [go_sem]
  refine zaa (hf l[k] (List.getElem_mem hk)) (zbz (by simp [go_sem]) (zfg _ _)) ?_
  rcases Bool.eq_false_or_eq_true (p l[k]) with h3|h3
  ·simp [h3,go_sem]
   refine hr _ ?_
   simp [go_sem,zrj hk h2 h3]
  ·simp [h3,e1,go_sem]
   refine hn (k+1) _ (Weak.to [0,1,7,8] [] (by simp [go_sem])) ⟨by omega,fun x hx=>?_⟩ (by omega)
   rw [List.take_succ_eq_append_getElem hk] at hx
   rcases List.mem_append.1 hx with hx|hx
   ·exact h2 x hx
   ·simp at hx; rw [hx]; exact h3
 ·have:k=l.length:=by omega
  subst this
  simp [go_sem,zk9 (p:=p) (l:=l) (by simpa using h2)]
theorem zly (l:List GW) (f:FuncId) (caps:List PV) (p:GW->Bool) (hl:l.length<=4611686018427387904) (hf:∀ x∈l,Sp P f (enc x::caps) (.pure (.bool (p x)))) :
  Sp P F.jl [.sl (ens l),.fn f caps] (.pure (.bool (l.any p))):=by
 refine Sp.vz c.jl fun _=>?_
 simp [g.jl,go_sem]
 refine zaa (zk8 l f caps p hl hf) rfl ?_
 simp [go_sem,zhd]
theorem zi8 (l:List GArc) (f:FuncId) (caps:List PV) (p:GArc->Bool) (hl:l.length<=4611686018427387904) (hf:∀ x∈l,Sp P f (enc x::caps) (.pure (.bool (p x)))) :
  Sp P F.fo [.sl (ens l),.fn f caps] (.pure (.int .i64 (idxI p l))):=by
 refine Sp.vz c.fo fun _=>?_
 simp [g.fo,go_sem]
 refine zai (S:=fun k:Nat=>mkSt [(0,.p (.sl (ens l))),(1,.p (.fn f caps)),(7,.p (.int .i64 l.length)),(8,.p (.int .i64 k))] []) (I:=fun k=>k<=l.length/\∀ x∈l.take k,p x=false) (m:=fun k=>l.length - k) 0
  (Weak.to [0,1,7,8] [] (by simp [go_sem])) ⟨by omega,by simp⟩ ?_
 rintro k ⟨h1,h2⟩ R hn hr hx
 have e1:=i64s k (by omega)
 simp [g.o6,mkSt,go_sem]
 refine ⟨fun hk=>?_,fun hk=>hx _ _ ?_⟩
 ·refine zae hk ?_
  try simp [go_sem]
  refine zaa (hf l[k] (List.getElem_mem hk)) (zbz (by simp [go_sem]) (zfg _ _)) ?_
  rcases Bool.eq_false_or_eq_true (p l[k]) with h3|h3
  ·simp [h3,go_sem]
   refine hr _ ?_
   simp [go_sem,zrj hk h2 h3]
  ·simp [h3,e1,go_sem]
   refine hn (k+1) _ (Weak.to [0,1,7,8] [] (by simp [go_sem])) ⟨by omega,fun x hx=>?_⟩ (by omega)
   rw [List.take_succ_eq_append_getElem hk] at hx
   rcases List.mem_append.1 hx with hx|hx
   ·exact h2 x hx
   ·simp at hx; rw [hx]; exact h3
 ·have:k=l.length:=by omega
  subst this
  simp [go_sem,zk9 (p:=p) (l:=l) (by simpa using h2)]
theorem zrm (l:List GArc) (f:FuncId) (caps:List PV) (p:GArc->Bool) (hl:l.length<=4611686018427387904) (hf:∀ x∈l,Sp P f (enc x::caps) (.pure (.bool (p x)))) :
  Sp P F.i9 [.sl (ens l),.fn f caps] (.pure (.bool (l.any p))):=by
 refine Sp.vz c.i9 fun _=>?_
 simp [g.i9,go_sem]
 refine zaa (zi8 l f caps p hl hf) rfl ?_
 simp [go_sem,zhd]
theorem zjj (l m:List GMono) (f:FuncId) (hl:l.length<=4611686018427387904) (hf:∀ x∈l,∀ y∈m,Sp P f [enc x,enc y] (.pure (.bool (decide (x=y))))) :
  Sp P F.jg [.sl (ens l),.sl (ens m),.fn f []] (.pure (.bool (decide (l=m)))):=by
 refine Sp.vz c.jg fun _=>?_
 simp [g.jg,go_sem]
 refine ⟨fun h=>?_,fun h=>fun he=>h (by rw [he])⟩
 have hlen:l.length=m.length:=by omega
 refine zai (S:=fun k:Nat=>mkSt [(1,.p (.sl (ens m))),(2,.p (.fn f [])),(15,.p (.sl (ens l))),(16,.p (.int .i64 l.length)),(17,.p (.int .i64 k))] []) (I:=fun k=>k<=l.length/\l.take k=m.take k) (m:=fun k=>l.length - k) 0
  (Weak.to [1,2,15,16,17] [] (by simp [go_sem])) ⟨by omega,by simp⟩ ?_
 rintro k ⟨h1,h2⟩ R hn hr hx
 have e1:=i64s k (by omega)
 simp [g.oy,mkSt,go_sem]
 refine ⟨fun hk=>?_,fun hk=>hx _ _ ?_⟩
 ·have hk2:k<m.length:=by omega
  have bad:l[k]≠m[k]->l≠m:=fun h h'=>by subst h'; exact h rfl
  refine zae hk ?_
  try simp [go_sem]
  refine zae hk2 ?_
  try simp [go_sem]
  refine zaf (hf l[k] (List.getElem_mem hk) m[k] (List.getElem_mem hk2)) ?_
  by_cases h6:l[k]=m[k]
  ·simp [h6,e1,go_sem]
   exact hn (k+1) _ (Weak.to [1,2,15,16,17] [] (by simp [go_sem])) ⟨by omega,by rw [List.take_succ_eq_append_getElem hk,List.take_succ_eq_append_getElem hk2,h2,h6]⟩ (by omega)
  ·have h8:l≠m:=bad h6
   simp [h6,go_sem]
   exact hr _ (by simp [h8,go_sem])
 ·have h3:l=m:=by rw [<- List.take_length (l:=l),<- List.take_length (l:=m),<- hlen,show l.length=k by omega]; exact h2
  simp [h3,go_sem]
theorem zlz (l m:List GW) (f:FuncId) (hl:l.length<=4611686018427387904) (hf:∀ x∈l,∀ y∈m,Sp P f [enc x,enc y] (.pure (.bool (decide (x=y))))) :
  Sp P F.jh [.sl (ens l),.sl (ens m),.fn f []] (.pure (.bool (decide (l=m)))):=by
 refine Sp.vz c.jh fun _=>?_
 simp [g.jh,go_sem]
 refine ⟨fun h=>?_,fun h=>fun he=>h (by rw [he])⟩
 have hlen:l.length=m.length:=by omega
 refine zai (S:=fun k:Nat=>mkSt [(1,.p (.sl (ens m))),(2,.p (.fn f [])),(15,.p (.sl (ens l))),(16,.p (.int .i64 l.length)),(17,.p (.int .i64 k))] []) (I:=fun k=>k<=l.length/\l.take k=m.take k) (m:=fun k=>l.length - k) 0
  (Weak.to [1,2,15,16,17] [] (by simp [go_sem])) ⟨by omega,by simp⟩ ?_
 rintro k ⟨h1,h2⟩ R hn hr hx
 have e1:=i64s k (by omega)
 simp [g.oz,mkSt,go_sem]
 refine ⟨fun hk=>?_,fun hk=>hx _ _ ?_⟩
 ·have hk2:k<m.length:=by omega
  have bad:l[k]≠m[k]->l≠m:=fun h h'=>by subst h'; exact h rfl
  refine zae hk ?_
  try simp [go_sem]
  refine zae hk2 ?_
  try simp [go_sem]
  refine zaf (hf l[k] (List.getElem_mem hk) m[k] (List.getElem_mem hk2)) ?_
  by_cases h6:l[k]=m[k]
  ·simp [h6,e1,go_sem]
   exact hn (k+1) _ (Weak.to [1,2,15,16,17] [] (by simp [go_sem])) ⟨by omega,by rw [List.take_succ_eq_append_getElem hk,List.take_succ_eq_append_getElem hk2,h2,h6]⟩ (by omega)
  ·have h8:l≠m:=bad h6
   simp [h6,go_sem]
   exact hr _ (by simp [h8,go_sem])
 ·have h3:l=m:=by rw [<- List.take_length (l:=l),<- List.take_length (l:=m),<- hlen,show l.length=k by omega]; exact h2
  simp [h3,go_sem]
theorem zos (l:List GArc) (hl:l.length<=2147483648):Sp P F.a8 [.sl (ens l)] (.fresh 11 (ens l)):=by
 cases l with
 | nil =>
  refine Sp.nilcase ?_ ?_
  ·refine Sp.vz c.a8 fun _=>?_
   simp [g.a8,go_sem]
  ·refine Sp.vz c.a8 fun _=>?_
   simp [g.a8,go_sem,LIM]
 | cons x l =>
  refine Sp.vz c.a8 fun _=>?_
  simp at hl
  simp [g.a8,go_sem,LIM,hl]
end Go.Ab
namespace Go.Ab
open Enc (enc)
attribute [local go_sem] zal Opd.slots
theorem zth (x:Int):Sp P F.jx [.int .i64 x] (.pure (.bool false)):=by
 refine Sp.vz c.jx fun _=>?_
 simp [g.jx,go_sem]
theorem ziv (x y:Int):Sp P F.fu [.int .i64 x,.int .i64 y] (.pure (.int .i64 (cmpI x y))):=by
 refine Sp.vz c.fu fun _=>?_
 simp [g.fu,go_sem]
 refine zaa (zth x) rfl ?_
 simp [go_sem]
 refine zaa (zth y) rfl ?_
 simp [go_sem,cmpI]
 refine ⟨fun _ _=>by split<;>omega,fun _=>⟨fun _=>by (repeat' split)<;>omega,fun _=>by (repeat' split)<;>omega⟩⟩
def zg2:List Int->Int
 | []=>0
 | x::r=>if x=0 then zg2 r else x
theorem zrq {l:List Int}:∀ {k:Nat},(∀ x∈l.take k,x=0)->zg2 l=zg2 (l.drop k):=by
 intro k
 induction l generalizing k with
 | nil=>simp
 | cons x l ih =>
  cases k with
  | zero=>simp
  | succ k =>
   intro h
   have:x=0:=h x (by simp)
   simp only [zg2,this,if_true,List.drop_succ_cons]
   exact ih fun y hy=>h y (by simp [hy])
theorem z2m (l:List Int) (hl:l.length<=4611686018427387904):Sp P F.jo [.sl (ens l)] (.pure (.int .i64 (zg2 l))):=by
 refine Sp.vz c.jo fun _=>?_
 simp [g.jo,go_sem]
 refine zai (S:=fun k:Nat=>mkSt [(3,.p (.int .i64 0)),(6,.p (.sl (ens l))),(7,.p (.int .i64 l.length)),(8,.p (.int .i64 k))] []) (I:=fun k=>k<=l.length/\∀ x∈l.take k,x=0) (m:=fun k=>l.length - k) 0
  (Weak.to [3,6,7,8] [] (by simp [go_sem])) ⟨by omega,by simp⟩ ?_
 rintro k ⟨h1,h2⟩ R hn hr hx
 have e1:=i64s k (by omega)
 have hd:=zrq h2
 simp [g.pa,mkSt,go_sem]
 refine ⟨fun hk=>?_,fun hk=>hx _ _ ?_⟩
 ·have hdk:l.drop k=l[k]::l.drop (k+1):=List.drop_eq_getElem_cons hk
  rw [hdk] at hd
  refine zae hk ?_
  simp [e1,go_sem]
  refine ⟨fun h3=>?_,fun h3=>?_⟩
  ·refine hn (k+1) _ (Weak.to [3,6,7,8] [] (by simp [go_sem])) ⟨by omega,fun x hx=>?_⟩ (by omega)
   rw [List.take_succ_eq_append_getElem hk] at hx
   rcases List.mem_append.1 hx with hx|hx
   ·exact h2 x hx
   ·simp at hx; rw [hx]; exact h3
  ·refine hr _ ?_
   simp [zg2,h3] at hd
   simp [go_sem,hd]
 ·have:k=l.length:=by omega
  subst this
  simp [zg2] at hd
  simp [go_sem,hd]
theorem zm2 (l m:List UInt32) (hl:l.length<=4611686018427387904):Sp P F.jp [.sl (ens l),.sl (ens m)] (.pure (.bool (decide (l=m)))):=by
 refine Sp.vz c.jp fun _=>?_
 simp [g.jp,go_sem]
 refine ⟨fun h=>?_,fun h=>fun he=>h (by rw [he])⟩
 have hlen:l.length=m.length:=by omega
 refine zai (S:=fun k:Nat=>mkSt [(0,.p (.sl (ens l))),(1,.p (.sl (ens m))),(12,.p (.int .i64 l.length)),(13,.p (.int .i64 k))] []) (I:=fun k=>k<=l.length/\l.take k=m.take k) (m:=fun k=>l.length - k) 0
  (Weak.to [0,1,12,13] [] (by simp [go_sem])) ⟨by omega,by simp⟩ ?_
 rintro k ⟨h1,h2⟩ R hn hr hx
 have e1:=i64s k (by omega)
 simp [g.pb,mkSt,go_sem]
 refine ⟨fun hk=>?_,fun hk=>hx _ _ ?_⟩
 ·have hk2:k<m.length:=by omega
  have bad:l[k]≠m[k]->l≠m:=fun h h'=>by subst h'; exact h rfl
  refine zae hk ?_
  refine zae hk2 ?_
  simp [e1,go_sem]
  refine ⟨fun h6=>?_,fun h6=>?_⟩
  ·have h7:l[k]=m[k]:=UInt32.toNat_inj.1 (by omega)
   exact hn (k+1) _ (Weak.to [0,1,12,13] [] (by simp [go_sem])) ⟨by omega,by rw [List.take_succ_eq_append_getElem hk,List.take_succ_eq_append_getElem hk2,h2,h7]⟩ (by omega)
  ·have h8:l≠m:=bad fun h=>h6 (by rw [h])
   exact hr _ (by simp [h8,go_sem])
 ·have h3:l=m:=by rw [<- List.take_length (l:=l),<- List.take_length (l:=m),<- hlen,show l.length=k by omega]; exact h2
  simp [h3,go_sem]
theorem zmc (x y:GRat) (hx:x.sm 1073741824):Sp P F.fh [enc x,enc y] (.pure (.bool (decide (x=y)))):=by
 refine Sp.vz c.fh fun _=>?_
 simp [g.fh,go_sem]
 have key:∀ (x y:GRat),x=y ↔ x.neg=y.neg/\x.num=y.num/\x.den=y.den:=by intro x y; cases x; cases y; simp
 refine ⟨fun h1=>?_,fun h1=>?_⟩
 ·refine zaa (zm2 x.num y.num (by have:=hx.1; omega)) rfl ?_
  by_cases h2:x.num=y.num
  ·simp [h2,go_sem]
   refine zaa (zm2 x.den y.den (by have:=hx.2; omega)) rfl ?_
   simp [key x y,h1,h2,go_sem]
  ·simp [key x y,h2,go_sem]
 ·simp [key x y,h1,go_sem]
end Go.Ab
namespace Go.Ab
open Enc (enc)
attribute [local go_sem] zal Opd.slots
theorem zmh (e:Ex) (h:(-1000<e.a/\e.a<1000)/\(-1000<e.b/\e.b<1000) /\ -1000<e.c/\e.c<1000):Sp P F.gh [enc e] (.pure (.int .i64 (e.a+e.b+e.c))):=by
 have e1:IntKind.i64.wrap e.a=e.a:=i64w (by omega) (by omega)
 have e2:IntKind.i64.wrap (e.a+e.b)=e.a+e.b:=i64w (by omega) (by omega)
 have e3:IntKind.i64.wrap (e.a+e.b+e.c)=e.a+e.b+e.c:=i64w (by omega) (by omega)
 refine Sp.vz c.gh fun _=>?_
 simp [g.gh,go_sem]
 refine zbm fun R hn hr hx=>?_
 simp [g.kw,go_sem,e1]
 refine hn _ ?_
 clear hn hr hx
 refine zbm fun R hn hr hx=>?_
 simp [g.kw,go_sem,e2]
 refine hn _ ?_
 clear hn hr hx
 refine zbm fun R hn hr hx=>?_
 simp [g.kw,go_sem,e3]
 refine hn _ ?_
 clear hn hr hx
 refine zbm fun R hn hr hx=>?_
 simp [g.kw,go_sem]
 refine hx _ _ ?_
 simp [go_sem]
theorem zpl (d e:Ex):Sp P F.f9 [enc d,enc e] (.pure (.int .i64 (e.cmp d))):=by
 refine Sp.vz c.f9 fun _=>?_
 simp [g.f9,go_sem]
 refine zbm fun R hn hr hx=>?_
 simp [g.ku,go_sem]
 refine zaa (ziv e.a d.a) rfl ?_
 simp [go_sem]
 refine ⟨fun h=>?_,fun h=>?_⟩
 rotate_left
 ·refine hr _ ?_
  simp [go_sem]
  unfold cmpI at h ⊢; unfold Ex.cmp
  (repeat' split)<;>first|rfl|omega|simp_all
 refine hn _ ?_
 clear hn hr hx
 refine zbm fun R hn hr hx=>?_
 simp [g.ku,go_sem]
 refine zaa (ziv e.b d.b) rfl ?_
 simp [go_sem]
 refine ⟨fun h2=>?_,fun h2=>?_⟩
 rotate_left
 ·refine hr _ ?_
  simp [go_sem]
  unfold cmpI at h h2 ⊢; unfold Ex.cmp
  (repeat' split)<;>first|rfl|omega|simp_all
 refine hn _ ?_
 clear hn hr hx
 refine zbm fun R hn hr hx=>?_
 simp [g.ku,go_sem]
 refine zaa (ziv e.c d.c) rfl ?_
 simp [go_sem]
 refine ⟨fun h3=>?_,fun h3=>?_⟩
 rotate_left
 ·refine hr _ ?_
  simp [go_sem]
  unfold cmpI at h h2 h3 ⊢; unfold Ex.cmp
  (repeat' split)<;>first|rfl|omega|simp_all
 refine hn _ ?_
 clear hn hr hx
 refine zbm fun R hn hr hx=>?_
 simp [g.ku,go_sem]
 refine hx _ _ ?_
 simp [go_sem]
 unfold cmpI at h h2 h3; unfold Ex.cmp
 (repeat' split)<;>first|rfl|omega|simp_all
end Go.Ab
namespace Go.Ab
open Enc (enc)
attribute [local go_sem] zal Opd.slots
theorem z03 (m:GMono) (hm:m.coef.sm 1048576):Sp P F.j3 [enc m] (.pure (.bool m.ok)):=by
 have bad:(¬ (0<=m.e.a/\m.e.a<=5)\/¬ (0<=m.e.b/\m.e.b<=5)\/¬ (0<=m.e.c/\m.e.c<=5))->m.ok=false:=by
  intro h
  have:m.e.ok=false:=by simp only [Ex.ok,decide_eq_false_iff_not]; omega
  simp [GMono.ok,this]
 refine Sp.vz c.j3 fun _=>?_
 simp [g.j3,go_sem]
 refine zbm fun R hn hr hx=>?_
 by_cases ha:0<=m.e.a
 rotate_left
 ·simp [g.b7,go_sem,show m.e.a<0 by omega]
  refine hr _ ?_
  simp [go_sem,bad (by omega)]
 by_cases ha2:m.e.a<=5
 rotate_left
 ·simp [g.b7,go_sem,show ¬ m.e.a<0 by omega,show 5<m.e.a by omega]
  refine hr _ ?_
  simp [go_sem,bad (by omega)]
 simp [g.b7,go_sem,show ¬ m.e.a<0 by omega,show ¬ 5<m.e.a by omega]
 refine hn _ ?_
 clear hn hr hx
 refine zbm fun R hn hr hx=>?_
 by_cases hb:0<=m.e.b
 rotate_left
 ·simp [g.b7,go_sem,show m.e.b<0 by omega]
  refine hr _ ?_
  simp [go_sem,bad (by omega)]
 by_cases hb2:m.e.b<=5
 rotate_left
 ·simp [g.b7,go_sem,show ¬ m.e.b<0 by omega,show 5<m.e.b by omega]
  refine hr _ ?_
  simp [go_sem,bad (by omega)]
 simp [g.b7,go_sem,show ¬ m.e.b<0 by omega,show ¬ 5<m.e.b by omega]
 refine hn _ ?_
 clear hn hr hx
 refine zbm fun R hn hr hx=>?_
 by_cases hc:0<=m.e.c
 rotate_left
 ·simp [g.b7,go_sem,show m.e.c<0 by omega]
  refine hr _ ?_
  simp [go_sem,bad (by omega)]
 by_cases hc2:m.e.c<=5
 rotate_left
 ·simp [g.b7,go_sem,show ¬ m.e.c<0 by omega,show 5<m.e.c by omega]
  refine hr _ ?_
  simp [go_sem,bad (by omega)]
 simp [g.b7,go_sem,show ¬ m.e.c<0 by omega,show ¬ 5<m.e.c by omega]
 refine hn _ ?_
 clear hn hr hx
 refine zbm fun R hn hr hx=>?_
 simp [g.b7,go_sem]
 refine hx _ _ ?_
 clear hn hr hx
 simp [go_sem]
 refine zaa (zmh m.e (by omega)) rfl ?_
 simp [go_sem]
 refine ⟨fun hd=>?_,fun hd=>?_⟩
 ·have hok:m.e.ok=true:=by simp only [Ex.ok,decide_eq_true_eq]; omega
  refine zaa (zho m.coef (hm.mono (by omega))) rfl ?_
  rcases Bool.eq_false_or_eq_true m.coef.valid with hv|hv
  ·simp [go_sem,hv]
   refine zaa (zhp m.coef (hm.mono (by omega))) rfl ?_
   simp [go_sem,GMono.ok,hok,hv,zkc]
  ·simp [go_sem,hv,GMono.ok]
 ·have hok:m.e.ok=false:=by simp only [Ex.ok,decide_eq_false_iff_not]; omega
  simp [GMono.ok,hok]
theorem zpj (p:List GMono) (hp:psm p 1048576) (hl:p.length<=1073741824):Sp P F.fy [.sl (ens p)] (.pure (.bool (decide (PVal p)))):=by
 refine Sp.vz c.fy fun _=>?_
 simp [g.fy,go_sem]
 refine zai (S:=fun k:Nat=>mkSt [(0,.p (.sl (ens p))),(5,.p (.sl (ens p))),(6,.p (.int .i64 p.length)),(7,.p (.int .i64 k))] []) (I:=fun k=>k<=p.length/\∀ i,(h:i<p.length)->i<k->p[i].ok=true/\(0<i->p[i].e.cmp (p[i - 1]'(by omega)).e<0)) (m:=fun k=>p.length - k) 0
  (Weak.to [0,5,6,7] [] (by simp [go_sem])) ⟨by omega,fun i h h0=>by omega⟩ ?_
 rintro k ⟨h1,h2⟩ R hn hr hx
 have e3:=i64s k (by omega)
 simp [g.pg,mkSt,go_sem]
 refine ⟨fun hk=>?_,fun hk=>hx _ _ ?_⟩
 ·have bad:¬ (p[k].ok=true/\(0<k->p[k].e.cmp (p[k - 1]'(by omega)).e<0))->decide (PVal p)=false:=fun h=>decide_eq_false fun hv=>h (hv k hk)
  refine zae hk ?_
  try simp [go_sem]
  refine zaf (z03 p[k] (hp _ (List.getElem_mem hk))) ?_
  have step:p[k].ok=true->(0<k->p[k].e.cmp (p[k - 1]'(by omega)).e<0)->∀ i,(h:i<p.length)->i<k+1->p[i].ok=true/\(0<i->p[i].e.cmp (p[i - 1]'(by omega)).e<0):=by
   intro a b i h hi
   by_cases hik:i<k
   ·exact h2 i h hik
   ·have:i=k:=by omega
    subst this; exact ⟨a,b⟩
  rcases Bool.eq_false_or_eq_true p[k].ok with h3|h3
  rotate_left
  ·simp [h3,go_sem]
   refine hr _ ?_
   simp [go_sem]; simpa using bad (by simp [h3])
  by_cases h0:0<k
  rotate_left
  ·have:k=0:=by omega
   subst this
   simp [h3,go_sem]
   refine hn 1 _ (Weak.to [0,5,6,7] [] (by simp [go_sem])) ⟨by omega,step h3 (by omega)⟩ (by omega)
  have e1:IntKind.i64.wrap ((k:Int) - 1)=((k - 1:Nat):Int):=by rw [i64w (by omega) (by omega)]; omega
  have e2:0<(k:Int):=by omega
  have hk1:k - 1<p.length:=by omega
  simp [h3,e1,e2,h0,show ¬ k=0 by omega,go_sem]
  refine zae hk1 ?_
  try simp [go_sem]
  refine zaf (zpl p[k - 1].e p[k].e) ?_
  by_cases h4:p[k].e.cmp p[k - 1].e<0
  ·simp [go_sem,show ¬ (0<=p[k].e.cmp p[k - 1].e) by omega,h4,e3]
   refine hn (k+1) _ (Weak.to [0,5,6,7] [] (by simp [go_sem])) ⟨by omega,step h3 (fun _=>h4)⟩ (by omega)
  ·simp [go_sem,show 0<=p[k].e.cmp p[k - 1].e by omega,h4]
   refine hr _ ?_
   simp [go_sem]; simpa using bad (fun h=>h4 (h.2 h0))
 ·have:PVal p:=fun i h=>h2 i h (by omega)
  simp [this,go_sem]
theorem zpi (p:List GMono) (hp:psm p 1048576) (hl:p.length<=1073741824):Sp P F.gg [.sl (ens p)] (.pure (.sl (ens (pv p)))):=by
 refine Sp.vz c.gg fun _=>?_
 simp [g.gg,go_sem]
 refine zaa (zpj p hp hl) rfl ?_
 by_cases h:PVal p
 ·simp [h,pv,go_sem]
 ·simp [h,pv,go_sem]
end Go.Ab
namespace Go.Ab
open Enc (enc)
attribute [local go_sem] zal Opd.slots
def gr0:GRat:=⟨false,[],[]⟩
def gw0:GW:=.mk gr0 0 false 0 [] []
def GW.si (k:Int) (w:GW):Prop:=w.parts=[]/\(k≠1->k≠3->w.q=gr0)/\(k≠2->w.inf=false/\w.cost=0)/\(k≠4->w.set=0)/\(k≠5->w.poly=[]) /\
 (k=1->w.q.valid=true)/\(k=2->0<=w.cost/\w.cost<=1099511627776/\(w.inf=true->w.cost=0))/\(k=3->w.q.valid=true/\0<=w.q.v/\w.q.v<=1)/\(k=5->PVal w.poly)
noncomputable instance (k:Int) (w:GW):Decidable (w.si k):=Classical.propDecidable _
theorem si1 {w:GW}:w.si 1 ↔ w.parts=[]/\w.inf=false/\w.cost=0/\w.set=0/\w.poly=[]/\w.q.valid=true:=by simp [GW.si,and_assoc]
theorem si2 {w:GW}:w.si 2 ↔ w.parts=[]/\w.q=gr0/\w.set=0/\w.poly=[]/\0<=w.cost/\w.cost<=1099511627776/\(w.inf=true->w.cost=0):=by simp [GW.si]
theorem si3 {w:GW}:w.si 3 ↔ w.parts=[]/\w.inf=false/\w.cost=0/\w.set=0/\w.poly=[]/\w.q.valid=true/\0<=w.q.v/\w.q.v<=1:=by simp [GW.si,and_assoc]
theorem si4 {w:GW}:w.si 4 ↔ w.parts=[]/\w.q=gr0/\w.inf=false/\w.cost=0/\w.poly=[]:=by simp [GW.si,and_assoc]
theorem si5 {w:GW}:w.si 5 ↔ w.parts=[]/\w.q=gr0/\w.inf=false/\w.cost=0/\w.set=0/\PVal w.poly:=by simp [GW.si,and_assoc]
theorem zkd {q:Rat}:0<=sgnR q ↔ 0<=q:=by
 rw [<- Rat.num_nonneg]; unfold sgnR; (repeat' split)<;>omega
theorem z31:(rto 1).sm 1:=⟨zat (by decide),by decide⟩
end Go.Ab
namespace Go.Ab
open Enc (enc)
attribute [local go_sem] zal Opd.slots
def GW.chk (r:GRing) (w:GW):Prop:=r.ok=true/\(r.kind≠6->w.si r.kind)/\(r.kind=6->w.parts.length=r.parts.length/\w=.mk gr0 0 false 0 [] w.parts/\∀ i,(h:i<r.parts.length)->(h':i<w.parts.length)->w.parts[i].si r.parts[i])
noncomputable instance (r:GRing) (w:GW):Decidable (w.chk r):=Classical.propDecidable _
theorem GRing.ok_kind {r:GRing} (h:r.ok=true) (h6:r.kind≠6):1<=r.kind/\r.kind<=5/\r.parts=[]:=by
 simp only [GRing.ok,if_neg h6,decide_eq_true_eq] at h; exact h
theorem GRing.ok_parts {r:GRing} (h:r.ok=true) (h6:r.kind=6):2<=r.parts.length/\r.parts.length<=3/\∀ k∈r.parts,1<=k/\k<=5:=by
 simp only [GRing.ok,if_pos h6,decide_eq_true_eq] at h; exact h
@[go_sem] theorem GW.q_mk (q:GRat) (c:Int) (i:Bool) (s:UInt64) (p:List GMono) (ps:List GW):(GW.mk q c i s p ps).q=q:=rfl
@[go_sem] theorem GW.cost_mk (q:GRat) (c:Int) (i:Bool) (s:UInt64) (p:List GMono) (ps:List GW):(GW.mk q c i s p ps).cost=c:=rfl
@[go_sem] theorem GW.inf_mk (q:GRat) (c:Int) (i:Bool) (s:UInt64) (p:List GMono) (ps:List GW):(GW.mk q c i s p ps).inf=i:=rfl
@[go_sem] theorem GW.set_mk (q:GRat) (c:Int) (i:Bool) (s:UInt64) (p:List GMono) (ps:List GW):(GW.mk q c i s p ps).set=s:=rfl
@[go_sem] theorem GW.poly_mk (q:GRat) (c:Int) (i:Bool) (s:UInt64) (p:List GMono) (ps:List GW):(GW.mk q c i s p ps).poly=p:=rfl
@[go_sem] theorem GW.parts_mk (q:GRat) (c:Int) (i:Bool) (s:UInt64) (p:List GMono) (ps:List GW):(GW.mk q c i s p ps).parts=ps:=rfl
@[go_sem] theorem ybo:gr0.neg=false:=rfl
@[go_sem] theorem ybn:gr0.num=[]:=rfl
@[go_sem] theorem ybp:gr0.den=[]:=rfl
theorem zga (n:Nat):gr0.sm n:=⟨by simp [gr0],by simp [gr0]⟩
theorem GW.sm.tup {n:Nat} {ps:List GW} (h:ps.length<=n) (k:∀ w∈ps,w.sm n):(GW.mk gr0 0 false 0 [] ps).sm n:=.mk (zga n) (by intro m hm; simp at hm) (by simp) h k
end Go.Ab
namespace Go.Ab
open Enc (enc)
attribute [local go_sem] zal Opd.slots
theorem ztm (m n:GMono):m=n ↔ (m.e.a=n.e.a/\m.e.b=n.e.b/\m.e.c=n.e.c)/\m.coef=n.coef:=by
 obtain ⟨⟨a,b,c⟩,q⟩:=m
 obtain ⟨⟨a',b',c'⟩,q'⟩:=n
 simp
theorem zu8 (m n:GMono) (hm:m.coef.sm 1048576):Sp P F.fg [enc m,enc n] (.pure (.bool (decide (m=n)))):=by
 refine Sp.vz c.fg fun _=>?_
 simp [g.fg,go_sem]
 refine ⟨fun h1 h2 h3=>?_,fun h=>?_⟩
 ·refine zaa (zmc m.coef n.coef (hm.mono (by omega))) rfl ?_
  simp [ztm,h1,h2,h3,go_sem]
 ·have hmn:m≠n:=fun e=>by
   obtain ⟨⟨h1,h2,h3⟩,_⟩:=(ztm m n).1 e
   exact h h1 h2 h3
  simp [hmn,go_sem]
theorem zdf (v:GW) (hv:v.sm 1048576):∀ w:GW,Sp P F.ah [enc v,enc w] (.pure (.bool (decide (v=w)))):=by
 revert v
 refine GW.sm.ind fun v hv ih w=>?_
 refine Sp.vz c.ah fun hok=>?_
 simp [g.ah,go_sem]
 refine zaa (zmc v.q w.q (hv.q.mono (by omega))) rfl ?_
 by_cases h1:v.q=w.q
 rotate_left
 ·have:v≠w:=fun h=>h1 (by rw [h])
  simp [h1,this,go_sem]
 simp [h1,go_sem]
 refine ⟨fun h2=>?_,fun h2=>?_⟩
 rotate_left
 ·exact fun h=>h2 (by rw [h])
 refine ⟨fun h3=>?_,fun h3=>?_⟩
 rotate_left
 ·exact fun h=>h3 (by rw [h])
 refine ⟨fun h4'=>?_,fun h4=>?_⟩
 rotate_left
 ·exact fun h=>h4 (by rw [h])
 have h4:v.set=w.set:=UInt64.toNat_inj.1 (by omega)
 refine zaa (zjj v.poly w.poly F.fg (by have:=hv.len; omega) fun x hx y _=>zu8 x y (hv.poly x hx)) rfl ?_
 by_cases h5:v.poly=w.poly
 rotate_left
 ·have:v≠w:=fun h=>h5 (by rw [h])
  simp [h5,this,go_sem]
 simp [h5,go_sem]
 refine zaa (zlz v.parts w.parts F.ah (by have:=hv.plen; omega) fun x hx y _=>ih x hx y) rfl ?_
 by_cases h6:v.parts=w.parts
 ·have:v=w:=GW.ext h1 h2 h3 h4 h5 h6
  simp [this,go_sem]
 ·have:v≠w:=fun h=>h6 (by rw [h])
  simp [h6,this,go_sem]
end Go.Ab
