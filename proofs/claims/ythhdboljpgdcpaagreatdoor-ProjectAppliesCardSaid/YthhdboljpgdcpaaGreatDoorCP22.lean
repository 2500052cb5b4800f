/- Lemmas for the law ProjectApplies, part 22. No conditions. -/
import Derived.Test.YthhdboljpgdcpaaGreatDoorCP21
set_option maxRecDepth 100000
set_option maxHeartbeats 4000000
set_option linter.all false
namespace Go.Ab
open Enc (enc)
def nx(b:Int)(w:List Int)(a:Nat):Int:=if b=0 then a else if w[a]?=some b then a+1 else -1
def Ya(w:List Int)(m:Int)(Q:w.length<=1000000000):zS 53 [.sl (ens w),.int .i64 m] (.bool (decide ((1<=m/\m<=32)/\w.length<=256/\∀ x∈w,1<=x/\x<=m))):=by
 refine Sp.vz c.fx λ_=>?_;simp[g.fx];refine bA (I' m) rfl ?_;by_cases o:1<=m/\m<=32;rotate_left
 .simp[o]
  done
 by_cases b:w.length<=256;rotate_left
 .simp[o,b];exact λh=>absurd h (by omega)
 have f:(w.length:Int)<=256:=by omega
 simp[o,b,f];refine⟨λh=>absurd h (by omega),?_⟩
 refine b6 (S:=λk:Nat=>aB [(0,.p (.sl (ens w))),(1,.p (.int .i64 m)),(5,.p (.int .i64 k))] []) (I:=λk=>k<=w.length/\∀ i,(j:i<w.length)->i<k->1<=w[i]/\w[i]<=m) (m:=λk=>w.length - k) 0
  (aA.to [0,1,5] [] (by simp)) ⟨by omega,λi _ h=>by omega⟩ ?_
 rintro k ⟨O,D⟩ R u F y;have G:=aZ k;simp[g.u9,aB];refine⟨λl=>?_,λl=>y _ _ ?_⟩
 .refine bK l ?_
  try simp
  have d:=bU l;refine⟨λz=>F _ ?_,λz=>bK l ⟨λC=>F _ ?_,λC=>?_⟩⟩
  .simp;exact⟨_,d,λ_=>by omega⟩
  .simp;exact⟨_,d,λ_=>by omega⟩
  .rw[G];refine u (k+1) _ (aA.to [0,1,5] [] (by simp[aB])) ⟨by omega,λi j J=>?_⟩ (by omega);by_cases n:i<k
   .exact D i j n
   .have:i=k:=by omega
    subst this;exact⟨z,C⟩
 .have:∀ x∈w,1<=x/\x<=m:=λx y=>by obtain⟨i,j,rfl⟩:=qW.1 y;exact D i j (by omega)
  simp;exact this
instance:Enc (Int × Int):=⟨λx=>.agg [.int .i64 x.1,.int .i64 x.2],2,by decide,λ_=>rfl⟩
@[simp] theorem yk6(x:Int × Int):enc x=.agg [.int .i64 x.1,.int .i64 x.2]:=rfl
@[simp] theorem yho:Enc.sz (Int × Int)=2:=rfl
def rA(on:List Bool)(p:Int × Int):List Bool:=if on.getD p.1.toNat false=true then on.set p.2.toNat true else on
def lS(ps:List (Int × Int))(on:List Bool):List Bool:=ps.foldl rA on
def iS(ps:List (Int × Int)):Nat->List Bool->List Bool
 | 0,b=>b
 | n+1,b=>iS ps n (lS ps b)
def z37(on p):(rA on p).length=on.length:=by unfold rA;split<;>simp
theorem K1:∀ (ps:List (Int × Int)) (on:List Bool),(lS ps on).length=on.length
 | [],_=>rfl
 | p::ps,on=>by rw[show lS (p::ps) on=lS ps (rA on p) from rfl,K1,z37]
theorem AI(ps:List (Int × Int)):∀ (n:Nat) (on:List Bool),(iS ps n on).length=on.length
 | 0,_=>rfl
 | n+1,on=>by rw[show iS ps (n+1) on=iS ps n (lS ps on) from rfl,AI,K1]
theorem OW(ps:List (Int × Int)):∀ (n:Nat) (on:List Bool),iS ps (n+1) on=lS ps (iS ps n on)
 | 0,_=>rfl
 | n+1,on=>by rw[show iS ps (n+1+1) on=iS ps (n+1) (lS ps on) from rfl,OW];rfl
theorem Wu{ps:List (Int × Int)}{k:Nat}(h:k<ps.length)(on:List Bool):lS (ps.take (k+1)) on=rA (lS (ps.take k) on) ps[k]:=by unfold lS;rw[ed h,z8];rfl
def toNat_lt{p:Int}{n:Nat}(h:0<=p/\p<n):∃ k:Nat,p=k/\k<n:=⟨p.toNat,by omega,by omega⟩
def QM(on:List Bool)(ps:List (Int × Int))(hn:on.length<=100000)(hp:ps.length<=100000)(h:∀ p∈ps,(0<=p.1/\p.1<on.length)/\0<=p.2/\p.2<on.length) :
  zS 135 [.sl (ens on),.sl (ens ps)] (.sl (ens (iS ps on.length on))):=by
 refine Sp.vz c.oh λ_=>?_;simp[g.oh];refine⟨?_,?_⟩
 .omega
 refine b6 (S:=λk:Nat=>aB [(0,.own 1 0 0 on.length),(1,.p (.sl (ens ps))),(5,.p (.int .i64 k))] [(1,⟨1,aK (iS ps k on)⟩)]) (I:=λk=>k<=on.length) (m:=λk=>on.length - k) 0
  (aA.to [0,1,5] [((8,0),1)] (by simp[iS])) (by omega) ?_
 rintro k h1 R o hr hx;have X:=aZ k;simp[g.wm,aB];refine⟨λY=>?_,λY=>hx _ _ ?_⟩
 .refine b6 (S:=λi:Nat=>aB [(0,.own 1 0 0 on.length),(1,.p (.sl (ens ps))),(5,.p (.int .i64 k)),(6,.p (.int .i64 i))] [(1,⟨1,aK (lS (ps.take i) (iS ps k on))⟩)]) (I:=λi=>i<=ps.length) (m:=λi=>ps.length - i) 0
   (aA.to [0,1,5,6] [((1,0),1)] (by simp[lS])) (by omega) ?_
  rintro i h2 R2 j ad u;have D:=aZ i;have O:(lS (ps.take i) (iS ps k on)).length=on.length:=by rw[K1,AI]
  simp[g.wk,aB];refine⟨λf=>?_,λf=>u _ _ ?_⟩
  .obtain⟨⟨Q,U⟩,V,W⟩:=h _ (bU f);obtain⟨x,F,z⟩:=toNat_lt ⟨Q,U⟩;obtain⟨y,G,C⟩:=toNat_lt ⟨V,W⟩;refine bK f ?_;simp[F];have l:=Wu f (iS ps k on);generalize J:lS (List.take i ps) (iS ps k on)=d at *
   have b:rA d ps[i]=if d[x]=true then d.set y true else d:=by unfold rA;rw[F,G,kZ,kZ,eV,dO (by omega),xW]
   refine⟨⟨z,by omega⟩,bK (by omega) ?_⟩;by_cases n:d[x]=true
   .rw[aX n]at b;simp[n];refine bK f ?_;simp[G,D];refine⟨⟨C,by omega⟩,bK (by omega) ?_⟩;exact j (i+1) _ (aA.to [0,1,5,6] [((1,0),1)] (by simp[aB,l,b])) (by omega) (by omega)
   .rw[bD n]at b;simp[n,D];exact j (i+1) _ (aA.to [0,1,5,6] [((1,0),1)] (by simp[aB,l,b])) (by omega) (by omega)
  .have:i=ps.length:=by omega
   subst this;simp[X];exact o (k+1) _ (aA.to [0,1,5] [((1,0),1)] (by simp[aB,OW])) (by omega) (by omega)
 .have:k=on.length:=by omega
  subst this;simp[AI];rw[eZ (by rw[AI];omega)]
structure cQ (r:aC) where
 mb:Nat->GW->Prop
 lim:Nat
 mono:∀ {m n:Nat} {w:GW},mb m w->m<=n->mb n w
 zero:mb 0 r.zero
 plus:∀ {v w:GW} {n:Nat},v.aJ r->w.aJ r->mb n v->mb n w->mb (n+1) (r.plus v w)
 times:∀ {v w:GW} {m n:Nat},v.aJ r->w.aJ r->mb m v->mb n w->mb (m+n+1) (r.times v w)
 plusS:∀ {v w:GW} {n:Nat},n<=lim->v.aJ r->w.aJ r->mb n v->mb n w->zS 130 [enc r,enc v,enc w] (enc (r.plus v w))
 timesS:∀ {v w:GW} {n:Nat},n<=lim->v.aJ r->w.aJ r->mb n v->mb n w->zS 32 [enc r,enc v,enc w] (enc (r.times v w))
def vb{r:aC}(M:cQ r)(n:Nat)(l:List GW):Prop:=∀ w∈l,w.aJ r/\M.mb n w
def aE.fit(x:aE)(N:Nat):Prop:=(0<=x.f/\x.f<N)/\0<=x.t/\x.t<N
section
variable {P:Program} {K:Ctx} {Z Z':Cz} {st st':St} {w w':World} {a:Act}
end
section
variable {r:aC} (M:cQ r)
def fits{r:aC}(M:cQ r)(c N:Nat)(l:List aE):Prop:=∀ x∈l,(x.w.aJ r/\M.mb c x.w)/\x.fit N
structure GTrans.fits {r:aC} (M:cQ r) (c:Nat) (t:GTrans):Prop where
 ring:t.ring=r
 st:0<=t.st/\t.st<=64
 aD:Go.Ab.fits M c t.st.toNat t.aD
 aM:vb M c t.aM/\t.aM.length=t.st.toNat
 fin:vb M c t.fin/\t.fin.length=t.st.toNat
 rok:r.ok=true
variable {M}
end
section
variable (t:GTrans) (wx wy:List Int)
end
def yhz(w:List Int)(m:Int):Prop:=(1<=m/\m<=32)/\w.length<=256/\∀ x∈w,1<=x/\x<=m
noncomputable instance (w:List Int) (m:Int):Decidable (yhz w m):=Classical.propDecidable _
def Uo(a:Int)(d k B:Nat)(h:d*k=6)(i:a.natAbs<=B):qb 6 (B*k) (Rat.divInt a d):=by
 have b:qb d B (Rat.divInt a d):=⟨a,Rat.divInt_ofNat a d,i⟩;have f:=zip k (by rintro rfl;omega) b
 rwa[h]at f
def yar{B:Nat}{q:Rat}(h:qb 6 B q):lU 6 B (fS [] ⟨0,0,0⟩ q):=by
 have:=SG (SF 6) h (by omega) ⟨0,0,0⟩
 rwa[sG]at this
def UH{B:Nat}{q:Rat}(h:qb 6 B q)(b:B<=6291456):qm 1 q:=by unfold qm;rw[show mD 1=6 from rfl,show mB 1=6291456 from rfl];exact BL h b
def Su{k:Int}(f:1<=k/\k<=5):(dA k []).si k/\(dA k []).Ar 1:=by
 have h:k=1\/k=2\/k=3\/k=4\/k=5:=by omega
 have b:qm 1 (1:Rat):=UH (Uo 1 1 6 1 rfl (by decide)) (by omega);obtain rfl|rfl|rfl|rfl|rfl:=h
 .exact⟨xZ.2 ⟨rfl,rfl,rfl,rfl,rfl,vD 1⟩,by show qm 1 (cR 1).v;rw[kW];exact b,λe=>CL 1⟩
 .exact⟨pY.2 ⟨rfl,rfl,rfl,rfl,by decide,by decide,λh=>by cases h⟩,KR ..⟩
 .refine⟨wP.2 ⟨rfl,rfl,rfl,rfl,rfl,vD 1,?_,?_⟩,by show qm 1 (cR 1).v;rw[kW];exact b,λe=>CL 1⟩
  .show 0<=(cR 1).v;rw[kW];decide
  .show(cR 1).v<=1;rw[kW];exact Rat.le_refl
 .exact⟨Bf.2 ⟨rfl,rfl,rfl,rfl,rfl⟩,KR ..⟩
 .refine⟨Aq.2 ⟨rfl,rfl,rfl,rfl,rfl,YS 1⟩,?_,λe=>?_⟩
  .show qm 1 dP.v;rw[tJ];exact CL 1
  .have d:lU 6 6 (yd 1):=yar (Uo 1 1 6 1 rfl (by decide));exact UH (d e) (by omega)
def ya4{r:aC}(j:r.ok=true):r.one.aJ r/\r.one.mb 1:=by
 unfold aC.one;rw[aX j];by_cases f:r.kind=6
 .have u:=aC.bQ j f;rw[f];have e:dA 6 (r.parts.map λk=>dA k [])=.mk dP 0 false 0 [] (r.parts.map λk=>dA k []):=rfl;rw[e];have o:∀ i,(h:i<r.parts.length)->(d:i<(r.parts.map λk=>dA k []).length)->(r.parts.map λk=>dA k [])[i].si r.parts[i]/\(r.parts.map λk=>dA k [])[i].Ar 1:=λi h d=>by rw[Ce];exact Su (u.2.2 _ (bU h))
  refine⟨⟨j,λh=>absurd f h,λ_=>⟨ra ..,rfl,λi h d=>(o i h d).1⟩⟩,⟨Tf ..,λx l=>?_⟩⟩;obtain⟨i,p,rfl⟩:=qW.1 l;have b:i<(r.parts.map λk=>dA k []).length:=p;exact(o i (by rw[ra]at b;exact b) b).2
 .have n:=aC.cJ j f;have h:=Su ⟨n.1,n.2.1⟩;rw[n.2.2];exact⟨⟨j,λ_=>h.1,λd=>absurd d f⟩,⟨h.2,λx l=>by rw[show(dA r.kind ([].map λk=>dA k [])).parts=[] from h.1.1]at l;cases l⟩⟩
def WS{r:aC}(b:r.ok=true):r.zero.mb 0:=by unfold aC.zero;rw[aX b];refine⟨Tf ..,λx d=>?_⟩;obtain⟨k,_,rfl⟩:=cA.1 d;exact KR ..
end Go.Ab
namespace Go.Ab
open Enc (enc)
attribute [local simp] iJ bP.aY
theorem GW.ind{M:GW->Prop}(h:∀ v,(∀ w∈v.parts,M w)->M v):∀ v,M v
 | .mk q c i s p ps=>h _ λw b=>by have:SizeOf.sizeOf w<SizeOf.sizeOf ps:=List.sizeOf_lt_of_mem b;exact GW.ind h w
termination_by v=>SizeOf.sizeOf v
decreasing_by simp only[GW.mk.sizeOf_spec];omega
inductive GW.lt:GW->Prop
 | mk {q:aT} {c:Int} {i:Bool} {s:UInt64} {p:List aF} {ps:List GW}:q.sm 3->p.length<=8->ps.length<=4->fP p 2->(∀ w∈ps,GW.lt w)->GW.lt (.mk q c i s p ps)
def GW.lt_iff{w:GW}:w.lt ↔ w.q.sm 3/\w.aR.length<=8/\w.parts.length<=4/\fP w.aR 2/\∀ x∈w.parts,x.lt:=by
 constructor
 .intro h;cases h with|mk a b c d e=>exact⟨a,b,c,d,e⟩
 .cases w;rintro⟨a,b,c,d,e⟩;exact .mk a b c d e
theorem GW.yU:∀ w:GW,w.lt->w.sm 8:=by
 refine GW.ind λv j h=>?_;obtain⟨a,b,c,d,e⟩:=GW.lt_iff.1 h;cases v with
 | mk q k i s p ps=>exact .mk (a.jX (by omega)) (d.jX (by omega)) b (dM c (by omega)) λx f=>j x f (e x f)
noncomputable instance (w:GW):Decidable w.lt:=Classical.propDecidable _
def Tu:∀ w:GW,zS 21 [enc w] (.bool (decide w.lt)):=by
 refine GW.ind λv ih=>?_;refine Sp.vz c.fk λad=>?_;simp[g.fk];refine aW (PC v.q 3) ?_;by_cases o:v.q.num.length<=3/\v.q.den.length<=3;rotate_left
 .rw[decide_eq_false o];simp;exact λh=>o (GW.lt_iff.1 h).1
 rw[decide_eq_true o];simp;refine⟨λU h=>by have:=(GW.lt_iff.1 h).2.1;omega,λU=>⟨λV h=>by have:=(GW.lt_iff.1 h).2.2.1;omega,λV=>?_⟩⟩
 refine b6 (S:=λk:Nat=>aB [(1,.ptr 1 0 0 0),(3,.p (.int .i64 k))] [(1,⟨8,[.p (enc v)]⟩)]) (I:=λk=>k<=v.aR.length/\∀ i,(f:i<v.aR.length)->i<k->v.aR[i].bE.sm 2) (m:=λk=>v.aR.length - k) 0
  (aA.to [1,3] [((1,0),1)] (by simp)) ⟨by omega,λi _ y=>by omega⟩ ?_
 rintro k ⟨h6,J⟩ R Y C n;have O:=aZ k;by_cases u:k<v.aR.length
 .simp[g.tb,aB,u];refine bK u ?_;refine aW (PC v.aR[k].bE 2) ?_;by_cases d:v.aR[k].bE.num.length<=2/\v.aR[k].bE.den.length<=2
  .rw[decide_eq_true d];simp[O];refine Y (k+1) _ (aA.to [1,3] [((1,0),1)] (by simp[aB])) ⟨by omega,λi f y=>?_⟩ (by omega);by_cases j:i<k
   .exact J i f j
   .have:i=k:=by omega
    subst this;exact d
  .rw[decide_eq_false d];simp;refine C _ ?_;simp;exact λh=>d ((GW.lt_iff.1 h).2.2.2.1 _ (bU u))
 .have W:fP v.aR 2:=λx n=>by obtain⟨i,f,rfl⟩:=qW.1 n;exact J i f (by omega)
  simp[g.tb,aB,u];refine n _ _ ?_;simp
  refine b6 (S:=λk:Nat=>aB [(1,.ptr 1 0 0 0),(4,.p (.int .i64 k))] [(1,⟨8,[.p (enc v)]⟩)]) (I:=λk=>k<=v.parts.length/\∀ i,(f:i<v.parts.length)->i<k->v.parts[i].lt) (m:=λk=>v.parts.length - k) 0
   (aA.to [1,4] [((1,0),1)] (by simp)) ⟨by omega,λi _ y=>by omega⟩ ?_
  rintro l ⟨g6,G⟩ R2 z D F;have Q:=aZ l;by_cases b:l<v.parts.length
  .simp[g.tc,aB,b];refine bK b ?_;refine aW (ih _ (bU b)) ?_;by_cases d:v.parts[l].lt
   .rw[decide_eq_true d];simp[Q];refine z (l+1) _ (aA.to [1,4] [((1,0),1)] (by simp[aB])) ⟨by omega,λi f y=>?_⟩ (by omega);by_cases j:i<l
    .exact G i f j
    .have:i=l:=by omega
     subst this;exact d
   .rw[decide_eq_false d];simp;refine D _ ?_;simp;exact λh=>d ((GW.lt_iff.1 h).2.2.2.2 _ (bU b))
  .have X:∀ x∈v.parts,x.lt:=λx n=>by obtain⟨i,f,rfl⟩:=qW.1 n;exact G i f (by omega)
   simp[g.tc,aB,b];refine F _ _ ?_;simp;exact GW.lt_iff.2 ⟨o,by omega,by omega,W,X⟩
def Rz(l:List GW)(m:Nat)(O:m<=1000000):zS 20 [.sl (ens l),.int .i64 m] (.bool (decide (l.length<=m/\∀ w∈l,w.lt))):=by
 refine Sp.vz c.fj λG=>?_;by_cases u:l.length<=m;rotate_left
 .have:¬ (l.length:Int)<=m:=by omega
  simp[g.fj,u]
 have h:¬ (m:Int)<l.length:=by omega
 simp[g.fj,u,h]
 refine b6 (S:=λk:Nat=>aB [(0,.p (.sl (ens l))),(5,.p (.int .i64 k))] []) (I:=λk=>k<=l.length/\∀ i,(d:i<l.length)->i<k->l[i].lt) (m:=λk=>l.length - k) 0
  (aA.to [0,5] [] (by simp)) ⟨by omega,λi _ C=>by omega⟩ ?_
 rintro k ⟨J,y⟩ R F n o;have z:=aZ k;by_cases f:k<l.length
 .simp[g.s9,aB,f];refine bK f ?_
  try simp
  refine aW (Tu l[k]) ?_;by_cases b:l[k].lt
  .rw[decide_eq_true b];simp[z];refine F (k+1) _ (aA.to [0,5] [] (by simp[aB])) ⟨by omega,λi d C=>?_⟩ (by omega);by_cases j:i<k
   .exact y i d j
   .have:i=k:=by omega
    subst this;exact b
  .rw[decide_eq_false b];simp;refine n _ ?_;simp;exact⟨_,bU f,b⟩
 .have D:∀ x∈l,x.lt:=λx o=>by obtain⟨i,d,rfl⟩:=qW.1 o;exact y i d (by omega)
  simp[g.s9,aB,f];refine o _ _ ?_;simp;exact D
def Vw(r:aC):zS 19 [enc r] (.bool (decide (r.parts.length<=6))):=by refine Sp.vz c.l9 λb=>?_;simp[g.l9];omega
structure aU.lt (a:aU):Prop where
 ring:a.ring.parts.length<=6
 aM:a.aM.length<=6/\∀ w∈a.aM,w.lt
 fin:a.fin.length<=6/\∀ w∈a.fin,w.lt
 al:a.aD.length<=16
 aD:∀ x∈a.aD,x.w.lt
noncomputable instance (a:aU):Decidable a.lt:=Classical.propDecidable _
structure GTrans.lt (a:GTrans):Prop where
 ring:a.ring.parts.length<=6
 aM:a.aM.length<=5/\∀ w∈a.aM,w.lt
 fin:a.fin.length<=5/\∀ w∈a.fin,w.lt
 al:a.aD.length<=12
 aD:∀ x∈a.aD,x.w.lt
noncomputable instance (a:GTrans):Decidable a.lt:=Classical.propDecidable _
def GTrans.lt.sm{a:GTrans}(h:a.lt):a.sm 8:=⟨λw b=>GW.yU _ (h.aM.2 w b),λw b=>GW.yU _ (h.fin.2 w b),λx d=>GW.yU _ (h.aD x d)⟩
def VO(a:GTrans):zS 7 [enc a] (.bool (decide a.lt)):=by
 refine Sp.vz c.l7 λO=>?_;simp[g.l7];refine aW (Vw a.ring) ?_;by_cases b:a.ring.parts.length<=6;rotate_left
 .rw[decide_eq_false b];simp;exact λh=>b h.ring
 rw[decide_eq_true b];simp;refine aW (Rz a.aM 5 (by omega)) ?_;by_cases d:a.aM.length<=5/\∀ w∈a.aM,w.lt;rotate_left
 .rw[decide_eq_false d];simp;exact λh=>d h.aM
 rw[decide_eq_true d];simp;refine aW (Rz a.fin 5 (by omega)) ?_;by_cases f:a.fin.length<=5/\∀ w∈a.fin,w.lt;rotate_left
 .rw[decide_eq_false f];simp;exact λh=>f h.fin
 rw[decide_eq_true f];simp;refine⟨λF h=>by have:=h.al;omega,λF=>?_⟩
 refine b6 (S:=λk:Nat=>aB [(1,.ptr 1 0 0 0),(3,.p (.int .i64 k))] [(1,⟨8,[.p (enc a)]⟩)]) (I:=λk=>k<=a.aD.length/\∀ i,(l:i<a.aD.length)->i<k->a.aD[i].w.lt) (m:=λk=>a.aD.length - k) 0
  (aA.to [1,3] [((1,0),1)] (by simp)) ⟨by omega,λi _ D=>by omega⟩ ?_
 rintro k ⟨Q,z⟩ R J u y;have C:=aZ k;by_cases n:k<a.aD.length
 .simp[g.s7,aB,n];refine bK n ?_
  try simp
  refine aW (Tu a.aD[k].w) ?_;by_cases j:a.aD[k].w.lt
  .rw[decide_eq_true j];simp[C];refine J (k+1) _ (aA.to [1,3] [((1,0),1)] (by simp[aB])) ⟨by omega,λi l D=>?_⟩ (by omega);by_cases o:i<k
   .exact z i l o
   .have:i=k:=by omega
    subst this;exact j
  .rw[decide_eq_false j];simp;refine u _ ?_;simp;exact λh=>j (h.aD _ (bU n))
 .have G:∀ x∈a.aD,x.w.lt:=λx y=>by obtain⟨i,l,rfl⟩:=qW.1 y;exact z i l (by omega)
  simp[g.s7,aB,n];refine y _ _ ?_;simp;exact⟨b,d,f,by omega,G⟩
end Go.Ab
namespace Go.Ab
open Enc (enc)
section
variable {E H s:Nat} (L:LB E H s)
def Oo{a:Nat}(k:a<=1048576):4294967296^a<=4294967296^1048576:=by
 generalize (1048576:Nat)=N at *
 exact Qb k
def He{x a:Nat}(h:x<4294967296^a)(k:a<=1048576):x<4294967296^1048576:=iL h (Oo k)
include L in
theorem z44{k:Int}(u:1<=k/\k<=5){v w:GW}{n:Nat}(l:v.qQ E H n)(o:w.qQ E H n)(hn:216<=jE s n)(hs:jE s n<=400000)(f:v.aJ ⟨k,[]⟩)(h:w.aJ ⟨k,[]⟩) :
  zS 130 [enc (⟨k,[]⟩:aC),enc v,enc w] (enc (zaw k v w)):=by
 have i:(⟨k,[]⟩:aC).kind≠6:=by show k≠6;omega
 have b:=(DR L (f.2.1 i) l hn).mono (show jE s n<=1048576 by omega);have d:=(DR L (h.2.1 i) o hn).mono (show jE s n<=1048576 by omega);have:k=1\/k=2\/k=3\/k=4\/k=5:=by omega
 obtain rfl|rfl|rfl|rfl|rfl:=this
 .exact yfk v w b d f h
 .exact yfj v w b d f h
 .exact yfi v w b d f h
 .exact yfh v w b d f h
 .have j:H^(n / 100)*2^(n % 100) / 46656<4294967296^jE s n:=oY (Cc _ _) (xE L n);exact yfg v w b d f h _ _ _ (yg l.p) (yg o.p) (L.ya _) (He (DM L n) (by omega)) (He (P9 _ _ _ j j) (by omega))
include L in
theorem TV{m n:Nat}(j:jE s m<=400000)(hn:jE s n<=400000):E^(m / 100)*E^(n / 100)<4294967296^1048576/\46656*(H^(m / 100)*2^(m % 100) / 46656*(H^(n / 100)*2^(n % 100) / 46656))<4294967296^1048576:=by
 refine⟨?_,?_⟩
 .refine iL (uJ (DM L m) (DM L n)) ?_;rw[<- Nat.pow_add];exact Oo (by omega)
 .have d:=Jp (H^(m / 100)*2^(m % 100)) 46656;have f:=Jp (H^(n / 100)*2^(n % 100)) 46656;have i:=Mb d f;have b:=uJ (xE L m) (xE L n);rw[<- Nat.pow_add]at b;have h:4294967296^(jE s m+jE s n)<=4294967296^1048576:=Oo (by omega);exact oY (by omega) (iL b h)
include L in
theorem Pf{k:Int}(z:1<=k/\k<=5){v w:GW}{n:Nat}(j:v.qQ E H n)(l:w.qQ E H n)(hn:216<=jE s n)(hs:jE s n<=400000)(f:v.aJ ⟨k,[]⟩)(h:w.aJ ⟨k,[]⟩) :
  zS 32 [enc (⟨k,[]⟩:aC),enc v,enc w] (enc (iB k v w)):=by
 have i:(⟨k,[]⟩:aC).kind≠6:=by show k≠6;omega
 have o:=DR L (f.2.1 i) j hn;have u:=DR L (h.2.1 i) l hn;have b:=o.mono (show jE s n<=1048576 by omega);have d:=u.mono (show jE s n<=1048576 by omega);have:k=1\/k=2\/k=3\/k=4\/k=5:=by omega
 obtain rfl|rfl|rfl|rfl|rfl:=this
 .exact WB v w b d f h
 .exact WC v w b d f h
 .exact WD v w b d f h
 .exact WE v w b d f h
 .obtain⟨x,y⟩:=TV L hs hs;exact WG v w b d f h _ _ _ _ (yg j.p) (yg l.p) (L.ya _) (L.ya _) x y (o.aR.jX (by omega)) (u.aR.jX (by omega))
include L in
theorem yfe(r:aC){v w:GW}{n:Nat}(p:v.lb E H n)(u:w.lb E H n)(hn:216<=jE s n)(hs:jE s n<=400000)(b:v.aJ r)(f:w.aJ r):zS 130 [enc r,enc v,enc w] (enc (r.plus v w)):=by
 have j:=b.1;by_cases d:r.kind=6
 .exact yff r v w ((AH L b p hn).mono (by omega)) ((AH L f u hn).mono (by omega)) b f d λi h k x=>
   z44 L ((aC.bQ j d).2.2 _ (bU h)) (p.ps _ (bU k)) (u.ps _ (bU x)) hn hs (CN b d h k) (CN f d h x)
 .have l:=aC.cJ j d;have y:r=⟨r.kind,[]⟩:=by rw[<- l.2.2]
  have k:r.plus v w=zaw r.kind v w:=by simp[aC.plus,d]
  rw[k,y];rw[y]at b f;exact z44 L ⟨l.1,l.2.1⟩ p.o u.o hn hs b f
include L in
theorem W0(r:aC){v w:GW}{n:Nat}(p:v.lb E H n)(u:w.lb E H n)(hn:216<=jE s n)(hs:jE s n<=400000)(b:v.aJ r)(f:w.aJ r):zS 32 [enc r,enc v,enc w] (enc (r.times v w)):=by
 have j:=b.1;by_cases d:r.kind=6
 .exact WH r v w ((AH L b p hn).mono (by omega)) ((AH L f u hn).mono (by omega)) b f d λi h k x=>
   Pf L ((aC.bQ j d).2.2 _ (bU h)) (p.ps _ (bU k)) (u.ps _ (bU x)) hn hs (CN b d h k) (CN f d h x)
 .have l:=aC.cJ j d;have y:r=⟨r.kind,[]⟩:=by rw[<- l.2.2]
  have k:r.times v w=iB r.kind v w:=by simp[aC.times,d]
  rw[k,y];rw[y]at b f;exact Pf L ⟨l.1,l.2.1⟩ p.o u.o hn hs b f
def yd5{r:aC}(b:r.ok=true)(E H:Nat):r.zero.lb E H 0:=by unfold aC.zero;rw[aX b];refine⟨LG ..,λx d=>?_⟩;obtain⟨k,_,rfl⟩:=cA.1 d;exact FC ..
def UL(r:aC)(hr:r.ok=true)(lim:Nat)(h1:216<=jE s lim)(h2:jE s lim<=400000):cQ r where
 mb n w:=w.lb E H n
 lim:=lim
 mono h k:=h.mono L k
 zero:=yd5 hr E H
 plus cv cw hv hw:=yfc L cv cw hv hw
 times cv cw hv hw:=z87 L cv cw hv hw
 plusS:=λ{v w n} hn cv cw hv hw=>yfe L r (hv.mono L hn) (hw.mono L hn) h1 h2 cv cw
 timesS:=λ{v w n} hn cv cw hv hw=>W0 L r (hv.mono L hn) (hw.mono L hn) h1 h2 cv cw
end
def GW.uY(w:GW):Nat:=w.q.v.den*s4 w.aR
def GW.den(w:GW):Nat:=w.uY*(w.parts.map GW.uY).foldr (· * ·) 1
def yV(l:List GW):Nat:=(l.map GW.den).foldr (· * ·) 1
theorem LD{a:Nat}:∀ {l:List Nat},a∈l->a ∣ l.foldr (· * ·) 1
 | x::l,h=>by
  obtain rfl|h:=cI.1 h
  .exact Jo _ _
  .exact B9 (LD h) (Jn _ _)
theorem LF:∀ {l:List Nat},(∀ x∈l,0<x)->0<l.foldr (· * ·) 1
 | [],_=>Nat.one_pos
 | x::l,h=>Cd (h x (by simp)) (LF λy b=>h y (by simp[b]))
theorem KL{a:Nat}:∀ {l:List Nat},(∀ x∈l,x<=4294967296^a)->l.foldr (· * ·) 1<=4294967296^(l.length*a)
 | [],_=>by simp
 | x::l,h=>by
  have:=mT (h x (by simp)) (KL (l:=l) λy b=>h y (by simp[b]));rw[<- Nat.pow_add]at this;have e:(x::l).length*a=a+l.length*a:=by simp[Ah];omega
  rw[e];exact this
structure GW.x6 (w:GW):Prop where
 q:w.q.sm 3
 l:w.aR.length<=8
 p:fP w.aR 3
structure GW.li (w:GW):Prop where
 o:w.x6
 l:w.parts.length<=4
 ps:∀ x∈w.parts,x.x6
def GW.lt.x6{w:GW}(h:w.lt):w.x6:=by obtain⟨b,d,h3,f,i⟩:=GW.lt_iff.1 h;exact⟨b,d,f.jX (by omega)⟩
def GW.lt.li{w:GW}(h:w.lt):w.li:=⟨h.x6,(GW.lt_iff.1 h).2.2.1,λx b=>((GW.lt_iff.1 h).2.2.2.2 x b).x6⟩
def GW.sm.x6{w:GW}(h:w.sm 3):w.x6:=⟨h.q,by have:=h.len;omega,h.aR⟩
def GW.sm.li{w:GW}(h:w.sm 3):w.li:=⟨h.x6,by have:=h.uU;omega,λx b=>(h.parts x b).x6⟩
def z78{w:GW}(h:w.x6):w.uY<=4294967296^28:=by have a:=(yR h.q (by omega)).2;have b:=yfm h.p (by omega);have f:=h.l;have d:s4 w.aR<=4294967296^25:=Bd (iL b (pV (by omega) (by omega)));have:=mT (Bd a) d;rw[<- Nat.pow_add]at this;exact this
def TE(w:GW):0<w.uY:=Cd (C9 w.q.v.den_nz) (C9 (ya0 _))
def Zp{w:GW}(h:w.li):w.den<=4294967296^140:=by have:=mT (z78 h.o) (KL (a:=28) (l:=w.parts.map GW.uY) λx b=>by obtain⟨y,d,rfl⟩:=cA.1 b;exact z78 (h.ps y d));rw[<- Nat.pow_add]at this;refine dM this (pV (by omega) ?_);have:=h.l;rw[ra];omega
def yg2(w:GW):0<w.den:=Cd (TE w) (LF λx b=>by obtain⟨y,_,rfl⟩:=cA.1 b;exact TE y)
def ybg(l:List GW):0<yV l:=LF λx b=>by obtain⟨y,_,rfl⟩:=cA.1 b;exact yg2 y
def ygd{l:List GW}{n:Nat}(h:∀ w∈l,w.li)(b:l.length<=n):yV l<4294967296^(n*140+1):=by
 have:=KL (a:=140) (l:=l.map GW.den) λx d=>by obtain⟨y,f,rfl⟩:=cA.1 d;exact Zp (h y f)
 rw[ra]at this;refine oY this (Ju (by omega) ?_);have:=jU 140 b;omega
def ybh{l:List GW}{w:GW}(h:w∈l):w.den ∣ yV l:=LD (cA.2 ⟨w,h,rfl⟩)
def HH(E:Nat):Nat:=46656*4294967296^3*(pI*E)
def YV{E s:Nat}(h:0<E)(b:E<4294967296^s)(hs:s<=8000):LB E (HH E) s:=by
 refine⟨h,?_,b,?_,hs⟩
 .unfold HH;exact Jw _ (by decide +kernel)
 .have d:pI*E<4294967296^(4+s):=by rw[rN];exact uJ RT b
  have f:46656*4294967296^3<4294967296^4:=by decide +kernel
  have:=uJ f d;rw[<- Nat.pow_add]at this;have e:4+(4+s)=s+8:=by omega
  rw[e]at this;exact this
section
variable {E s:Nat} (L:LB E (HH E) s)
include L in
theorem Uq{x:aT}(j:x.sm 3)(hd:x.v.den ∣ E):qL E (HH E) 100 x.v:=by
 obtain⟨c,h⟩:=hd;have d:c≠0:=by rintro rfl;have:=L.e;omega
 have f:=zip c d (KP x.v);rw[<- h]at f;have i:=(yR j (by omega)).1;have:=JT L 0 1 (x.v.num.natAbs*c) (by rw[Nat.pow_one];exact f) (by
  rw[Nat.pow_one,Nat.pow_zero,Nat.mul_one];unfold HH;have a:x.v.num.natAbs*c<=4294967296^3*E:=mT (Bd i) (by rw[h];exact Jw _ (C9 x.v.den_nz));have b:E<=pI*E:=Jw _ yc4
  calc 46656*(x.v.num.natAbs*c)<=46656*(4294967296^3*E):=Aa _ a
   _=46656*4294967296^3*E:=by rw[pX]
   _<=_:=Aa _ b)
 exact this
theorem OE:∀ {p:List aF} {m:aF},m∈p->m.bE.v.den ∣ s4 p
 | x::p,m,h=>by
  obtain rfl|h:=cI.1 h
  .exact Jo _ _
  .exact B9 (OE h) (Jn _ _)
include L in
theorem Nc{w:GW}(hp:bS w.aR)(h:w.x6)(hd:w.uY ∣ E):w.qQ E (HH E) 100:=by
 refine⟨Uq L h.q (B9 (Jo _ _) hd),λe=>?_⟩;obtain b|⟨m,d,b⟩:=F0 hp e
 .rw[b];exact AL _
 .rw[b];exact Uq L (h.p m d) (B9 (OE d) (B9 (Jn _ _) hd))
include L in
theorem Zf{r:aC}{w:GW}(f:w.aJ r)(h:w.li)(hd:w.den ∣ E):w.lb E (HH E) 100:=by
 have j:w.uY ∣ E:=B9 (Jo _ _) hd;by_cases d:r.kind=6
 .obtain⟨l,e,p⟩:=f.2.2 d;refine⟨Nc L (by rw[e];exact D1) h.o j,λx b=>?_⟩;obtain⟨i,n,rfl⟩:=qW.1 b;exact Nc L (jJ (p i (by omega) n)) (h.ps _ b) (B9 (LD (cA.2 ⟨_,b,rfl⟩)) (B9 (Jn _ _) hd))
 .have k:=f.2.1 d;exact⟨Nc L (jJ k) h.o j,λx b=>by rw[k.1]at b;cases b⟩
end
structure pN where
 st:Int
 aM:List Int
 fin:List Int
 aD:List Int
 em:Bool
instance:Enc pN:=⟨λx=>.agg [.int .i64 x.st,.sl (ens x.aM),.sl (ens x.fin),.sl (ens x.aD),.bool x.em],5,by decide,λ_=>rfl⟩
@[simp] theorem yj0(x:pN):enc x=.agg [.int .i64 x.st,.sl (ens x.aM),.sl (ens x.fin),.sl (ens x.aD),.bool x.em]:=rfl
@[simp] theorem ygs:Enc.sz pN=5:=rfl
section
variable {r:aC}
def ckL(r:aC)(N:Nat)(l:List GW):Prop:=(∀ w∈l,w.aJ r)/\l.length=N
def Zm(r:aC)(N:Nat)(l:List aE):Prop:=∀ x∈l,x.w.aJ r/\x.fit N
structure swap (t u:GTrans):Prop where
 ring:u.ring=t.ring
 st:u.st=t.st
 aM:u.aM=t.aM
 fin:u.fin=t.fin
 aD:u.aD.Perm (t.aD.map swT)
structure ckT (r:aC) (t:GTrans):Prop where
 ring:t.ring=r
 rok:r.ok=true
 fin:ckL r t.st.toNat t.fin
 aD:Zm r t.st.toNat t.aD
end
section
variable {α : Type} {key : α -> List Int} {wt : α -> GW} {r:aC}
end
end Go.Ab
namespace Go.Ab
open Enc (enc)
attribute [local simp] iJ bP.aY
def sf:GW:=.mk (cR 1) 0 false 0 [] []
def DF:GW:=.mk (cR 2) 0 false 0 [] []
def uw:aC:=⟨1,[]⟩
def yfv:uw.one=sf:=by simp[aC.one,uw,aC.ok,sf,dA]
def Hz:sf.aJ uw:=⟨rfl,λ_=>xZ.2 ⟨rfl,rfl,rfl,rfl,rfl,vD 1⟩,λh=>by cases h⟩
def NP:sf.sm 3:=.one 1 ⟨dM D8.1 (by omega),dM D8.2 (by omega)⟩ (FI 3) (by simp)
def w11:uw.plus sf sf=DF:=by
 have:uw.plus sf sf=zaw 1 sf sf:=rfl;rw[this];simp only[zaw,cH,sf,DF,GW.qM,kW]
 congr 2
 exact(by decide +kernel:(1:Rat)+1=2)
def Zk:DF≠uw.zero:=by
 have:uw.zero=.mk dP 0 false 0 [] []:=by simp[aC.zero,uw,aC.ok]
 rw[this];intro h;simp only[DF,GW.mk.injEq]at h;have b:=congrArg aT.v h.1;rw[kW,tJ]at b;exact absurd b (by decide)
def rI:GTrans:=⟨uw,1,3,1,[sf],[sf],[⟨0,1,2,0,sf⟩,⟨0,1,3,0,sf⟩]⟩
def Jc:rI.ok:=by
 refine⟨rfl,by decide,by decide,by decide,by decide,rfl,rfl,by decide,?_,?_,?_⟩
 .intro x d;simp only[rI,cI,sF,or_false]at d;obtain rfl|rfl:=d
  .exact⟨by decide,by decide,by decide,by decide,by decide,by decide,by decide,by decide,Hz⟩
  .exact⟨by decide,by decide,by decide,by decide,by decide,by decide,by decide,by decide,Hz⟩
 .intro w b;simp[rI]at b;subst b;exact Hz
 .intro w b;simp[rI]at b;subst b;exact Hz
def Zc:rI.sm 3:=by
 refine⟨?_,?_,?_⟩
 .intro w b;simp[rI]at b;subst b;exact NP
 .intro w b;simp[rI]at b;subst b;exact NP
 .intro x d;simp only[rI,cI,sF,or_false]at d;obtain rfl|rfl:=d<;>exact NP
def ZZ:mY uw (rI.aD.map (fJ aE.i))=[⟨0,1,0,DF⟩]:=by
 have:eU aV.key (lO uw) id (bW aV.key (rI.aD.map (fJ aE.i)))=[⟨0,1,0,uw.plus sf sf⟩]:=by simp[rI,fJ,bW,eJ,eU,gS,aV.key,lO]
 unfold mY;rw[this,w11];simp[Zk]
def F1:zS 14 [] (.bool true):=by
 refine Sp.vz c.l8 λk=>?_;have f:=z60 rI 3 (by omega) (by omega) Zc (by simp[rI]) (by simp[rI]) (by simp[rI]);have l:ES rI rI.oa=⟨uw,1,1,[sf],[sf],[⟨0,1,0,DF⟩]⟩:=by simp only[ES,Jc,cH,aU.iV.2 (Ub Jc)];show aU.mk _ _ _ _ _ _=_;rw[<- ZZ];rfl
 have j:ER rI rI.oa=0:=by simp[ER,Jc,aU.iV.2 (Ub Jc)]
 rw[l,j]at f;have d:=HQ uw;rw[yfv]at d;simp[g.l8];refine bA d (by simp[uw]) ?_;simp;refine bA f (by simp[rI,uw]) ?_;simp;refine⟨λx _ h=>by omega,?_⟩;have b:=Cy 2 1 (by omega) (by omega) (by omega);rw[show Rat.divInt 2 1=2 by decide]at b;refine aW b ?_;have i:(cR 2).sm 1073741824:=⟨dM (show(cR 2).num.length<=1 from nR (by decide)) (by omega),dM (show(cR 2).den.length<=1 by decide) (by omega)⟩;simp[DF];refine aW (wF (cR 2) (cR 2) i) ?_;simp
structure aU.fit (a:aU):Prop where
 sm:a.sm 1048576
 li:a.aM.length<=1000000
 lf:a.fin.length<=1000000
 la:a.aD.length<=1000000
structure GTrans.fit (a:GTrans):Prop where
 sm:a.sm 1048576
 li:a.aM.length<=1000000
 lf:a.fin.length<=1000000
 la:a.aD.length<=1000000
end Go.Ab
namespace Go.Ab
open Enc (enc)
structure GW.rR (r:aC) (w:GW):Prop where
 aJ:w.aJ r
 mb:w.mb 1
 pl:w.aR.length<=3
 ps:∀ x∈w.parts,x.aR.length<=3
theorem UB{k:Int}{w:GW}(hs:w.si k)(h:w.Ar 1)(f:w.aR.length<=3):w.sm 3:=by
 have l:=Dn hs;have j:=jJ hs;cases w with
 | mk q c i s p o =>
  have e:o=[]:=hs.1;subst e;have b:q.sm 3:=by
   have:=JU (n:=3) h.q (TU 1) (by decide) (by decide)
   rwa[show cR (GW.q (GW.mk q c i s p [])).v=q from sx l]at this
  have d:fP p 3:=AK h.p j (TU 1) (by decide) (by decide);exact .mk b d f (by simp) (by simp)
def GW.rR.sm{r:aC}{w:GW}(h:w.rR r):w.sm 3:=by
 by_cases b:r.kind=6
 .obtain⟨l,e,hs⟩:=h.aJ.2.2 b;have hp:=aC.bQ h.aJ.1 b;rw[e];refine .bM (by omega) λx d=>?_;obtain⟨i,hi,rfl⟩:=qW.1 d;exact UB (hs i (by omega) hi) (h.mb.ps _ d) (h.ps _ d)
 .exact UB (h.aJ.2.1 b) h.mb.o h.pl
def YR(q:Rat):(yd q).length<=1:=OI [] _ q
def Ss(k:Int)(ps:List GW):(dA k ps).aR.length<=3:=by
 show(if k=5 then yd 1 else[]).length<=3;split
 .have:=YR 1;omega
 .exact vI _
def BT{r:aC}(b:r.ok=true):r.one.rR r:=by
 have h:=ya4 b;refine⟨h.1,h.2,?_,λx d=>?_⟩
 .unfold aC.one;rw[aX b];exact Ss _ _
 .unfold aC.one at d;rw[aX b]at d;obtain⟨k,_,rfl⟩:=cA.1 (show x∈r.parts.map λk=>dA k [] from d);exact Ss _ _
def Ql{r:aC}(b:r.ok=true):r.zero.rR r:=by
 refine⟨yC b,(WS b).mono (by omega),?_,λx d=>?_⟩
 .unfold aC.zero;rw[aX b];exact vI _
 .unfold aC.zero at d;rw[aX b]at d;obtain⟨k,_,rfl⟩:=cA.1 (show x∈r.parts.map mP from d);exact vI _
structure GTrans.tin (t:GTrans):Prop where
 ok:t.ok
 st:t.st<=3
 al:t.aD.length<=7
 aM:∀ w∈t.aM,w.rR t.ring
 fin:∀ w∈t.fin,w.rR t.ring
 aD:∀ x∈t.aD,x.w.rR t.ring
def UC{r:aC}(M:cQ r){n:Nat}{l:List aE}(h:∀ x∈l,M.mb n x.w/\x.w.aJ r):∀ x∈cV r l,M.mb (l.length+n) x.w:=λx b=>by
 have i:=gB (key:=aE.key) l;have d:∀ x∈bW aE.key l,M.mb n x.w/\x.w.aJ r:=λx b=>h x ((i.2.2 x).1 b)
 have j:=HL (key:=aE.key) (up:=lE r) (nw:=id) (Q:=λk x=>M.mb (k+n) x.w/\x.w.aJ r) (λk x b=>⟨M.mono b.1 (by omega),b.2⟩) (l:=bW aE.key l) (λx b=>⟨M.mono (d x b).1 (by show n<=0+n;omega),(d x b).2⟩)
  (λk z x b f=>⟨by have:=M.plus f.2 (d x b).2 f.1 (M.mono (d x b).1 (by omega));exact M.mono this (by omega),(BU f.2 (d x b).2:(r.plus z.w x.w).aJ r)⟩) (λk x b=>⟨M.mono b.1 (by omega),b.2⟩) _ (dE _)
 rw[eZ (dE _),i.2.1]at j;exact(j.2 x (kI.1 b).1).1
def GTrans.jP(t:GTrans):List GW:=t.aM++(t.fin++t.aD.map aE.w)
def ltW{x a b:Nat}(h:x<4294967296^a)(k:a<=b):x<4294967296^b:=iL h (Qb k)
def aF.nD(m x:aF):aF:=⟨m.e.add x.e,cR (m.bE.v*x.bE.v)⟩
def nC(l:List aF):List aF:=l.filter λm=>m.e.ok
def oU(p q:List aF):List aF:=p.flatMap λm=>q.map m.nD
def HP(a b:List aF):nC (a++b)=nC a++nC b:=tW ..
def Nd{l:List aF}:∀ m∈nC l,m.e.ok=true:=λm h=>(kI.1 h).2
def ZF(m:aF)(e:Ex):pc (nC [m]) e=if m.e.ok=true/\m.e=e then m.bE.v else 0:=by unfold nC;cases h:m.e.ok<;>simp[h,pc,qY]
theorem KJ(m:aF):∀ (q o:List aF) (e:Ex),pc (gM m q o) e=pc o e+pc (nC (q.map m.nD)) e
 | [],o,e=>by simp[gM,nC,pc,qY]
 | x::q,o,e=>by have h:gM m (x::q) o=gM m q (fS o (m.e.add x.e) (m.bE.v*x.bE.v)):=rfl;rw[h,KJ m q,KI,jH,show m.nD x::q.map m.nD=[m.nD x]++q.map m.nD from rfl,HP,Er,ZF,Af];simp only[aF.nD,kW]
theorem OD:∀ (p q o:List aF) (e:Ex),pc (p.foldl (λo m=>gM m q o) o) e=pc o e+pc (nC (oU p q)) e
 | [],q,o,e=>by simp[oU,nC,pc,qY]
 | m::p,q,o,e=>by rw[C8,OD p q,KJ,show oU (m::p) q=q.map m.nD++oU p q from rfl,HP,Er,Af]
def SC(p q:List aF)(e:Ex):pc (gE p q) e=pc (nC (oU p q)) e:=by have:=OD p q [] e;simpa[gE,pc,Rat.zero_add]using this
def um(p q:List aF)(i k:Nat):List aF:=nC (oU (p.take i) q)++nC ((q.take k).map (p.getD i ⟨⟨0,0,0⟩,dP⟩).nD)
def T3(p q:List aF):um p q 0 0=[]:=by simp[um,oU,nC]
theorem YZ{p q:List aF}{i k:Nat}(b:i<p.length)(d:k<q.length):um p q i (k+1)=um p q i k++nC [p[i].nD q[k]]:=by unfold um;rw[ed d,sS,HP,sI,eV,dO b];rfl
def YF(p:List aF)(m:aF)(q:List aF):oU (p++[m]) q=oU p q++q.map m.nD:=by simp[oU]
def T4{p q:List aF}{i:Nat}(b:i<p.length):um p q i q.length=um p q (i+1) 0:=by unfold um;rw[ed b,YF,HP,kK,eV,dO b];simp[nC]
def z41(p q:List aF):um p q p.length 0=nC (oU p q):=by simp[um,nC]
theorem Z1{p q:List aF}{i k:Nat}(b:i<p.length)(e:Ex):pc (um p q i k) e=pc (gM p[i] (q.take k) (gE (p.take i) q)) e:=by unfold um;rw[Er,KJ,SC,eV,dO b];rfl
def z40{p q:List aF}{L:List (Ex × aT)}(h:jN (nC (oU p q)) L):(gE p q).Perm (nz L):=by
 have f:∀ m∈nz L,m.ok=true:=λm o=>by obtain⟨y,l⟩:=KF o;obtain⟨n,x,z,C⟩:=h.mem y;simp only at n C;refine aF.b0.2 ⟨?_,by rw[n];exact vD _,l⟩;rw[<- C];exact Nd x z
 let le:aF->aF->Bool:=λa b=>decide (b.e.code<=a.e.code)
 have d:((nz L).mergeSort le).Perm (nz L):=List.mergeSort_perm _ _;have i:((nz L).mergeSort le).Pairwise λa b=>le a b=true:=List.pairwise_mergeSort (λa b c y l=>by simp only[le,decide_eq_true_eq]at *;omega) (λa b=>by simp only[le,Dc,decide_eq_true_eq];omega) _;have u:(((nz L).mergeSort le).map (·.e)).Nodup:=(d.map _).nodup_iff.2 (Lx h.Cp);have k:bS ((nz L).mergeSort le):=by
  refine iA.2 ⟨λm o=>f m (d.mem_iff.1 o),?_⟩;have l:((nz L).mergeSort le).Pairwise λa b=>a.e≠b.e:=List.pairwise_map.1 u;refine(i.and l).imp_of_mem λ{a b} D F j=>?_;have I:=(aF.b0.1 (f a (d.mem_iff.1 D))).1;have J:=(aF.b0.1 (f b (d.mem_iff.1 F))).1;have n:b.e.code<=a.e.code:=by simpa[le]using j.1
  have z:b.e.code≠a.e.code:=λG=>j.2 ((Ex.mG J I).1 G).symm;omega
 have:gE p q=(nz L).mergeSort le:=by refine Ip (AX p q) k λe=>?_;rw[SC,Sz d,NL e h.Cp,h.G3]
 rw[this];exact d
def Vb{p:List aF}(h:bS p):p.Pairwise λx y=>y.e.cmp x.e<0:=by have d:=iA.1 h;refine d.2.imp_of_mem λ{a b} f i h=>?_;exact(Ex.mH (aF.b0.1 (d.1 b i)).1 (aF.b0.1 (d.1 a f)).1).2 h
def Uh{p q:List aF}{N i k:Nat}(l:i<p.length)(j:fP (gM p[i] (q.take k) (gE (p.take i) q)) N)(n:bS (gM p[i] (q.take k) (gE (p.take i) q))):∀ x∈qS (um p q i k) [],x.1.ok=true/\x.2.sm N:=by
 intro x o;obtain⟨b,m,d,f⟩:=(Bq (um p q i k)).mem o;refine⟨?_,?_⟩
 .rw[<- f];obtain h|h:=dN.1 d
  .exact Nd m h
  .exact Nd m h
 .rw[b,Z1 l];obtain h|⟨y,u,h⟩:=F0 n x.1
  .rw[h,show cR 0=dP from yA];exact yf N
  .rw[h];exact Uz (j y u)
def GF(m:aF)(L:List (Ex × aT)):List (Ex × aT):=if m.e.ok=true then lJ m L else L
def YI(m:aF)(L:List (Ex × aT))(j:(0<=m.e.a/\m.e.a<=10)/\(0<=m.e.b/\m.e.b<=10)/\0<=m.e.c/\m.e.c<=10)(i:m.bE.sm 1048576)(f:∀ p∈L,p.1.ok=true/\p.2.sm 1048576) :
  DH P 291 (n3 L) (pD L) [enc m.e,enc m.bE] (n3 (GF m L)) (pD (GF m L)):=by
 unfold GF;by_cases d:m.e.ok=true
 .rw[aX d];exact Mr m L d i f
 .rw[bD d];refine DH.fZ c.b7 (by simp) λr=>?_;show MR P _ _ _ _ (Km r (n3 L) (pD L));simp only[Ex.ok,decide_eq_true_eq]at d;unfold g.b7;refine MR.dG ?_;simp;refine MR.dG ?_;simp;refine bA (MG m.e ⟨⟨by omega,by omega⟩,⟨by omega,by omega⟩,by omega,by omega⟩) rfl ?_;simp;refine MR.eY (t:=false) (by simp;omega) (λh=>by cases h) (λ_=>MR.pE ⟨.inl rfl,.inr ⟨rfl,by simp⟩⟩)
def Xx(ms:List aF)(m:aF):qS (ms++nC [m]) []=GF m (qS ms []):=by
 unfold GF;cases h:m.e.ok
 .simp[nC,h]
 .simp[nC,h,qS]
structure qN (p q:List aF):Prop where
 hp:fP p 524288
 hq:fP q 524288
 hm:∀ i k (h:i<p.length),fP (gM p[i] (q.take k) (gE (p.take i) q)) 1048576
def Dv(r:Nat)(p q:List aF)(i:Nat):St:=aB [(1,.p (.sl (ens q))),(5,.p (.fM r)),(14,.p (.sl (ens p))),(15,.p (.int .i64 p.length)),(16,.p (.int .i64 i))] []
def Co(r:Nat)(p q:List aF)(i:Nat)(m:aF)(k:Nat):St:=aB [(1,.p (.sl (ens q))),(5,.p (.fM r)),(7,.ptr 2 0 0 0),(14,.p (.sl (ens p))),(15,.p (.int .i64 p.length)),(16,.p (.int .i64 i)),(21,.p (.sl (ens q))),(22,.p (.int .i64 q.length)),(23,.p (.int .i64 k))] [(2,⟨6,[.p (enc m)]⟩)]
def Bj(r:Nat)(p q:List aF)(i k:Nat):Option FA:=some (sN r (n3 (qS (um p q i k) [])) (pD (qS (um p q i k) [])))
def puI(r:Nat)(p q:List aF)(n:Nat)(s:St)(B:Option FA):Prop:=∃ i,i<=p.length/\n=p.length - i/\aA s (Dv r p q i)/\B=Bj r p q i 0
def puJ(r:Nat)(p q:List aF)(i:Nat)(m:aF)(n:Nat)(s:St)(B:Option FA):Prop:=∃ k,k<=q.length/\n=q.length - k/\aA s (Co r p q i m k)/\B=Bj r p q i k
def puE(r:Nat)(p q:List aF)(b:Exit)(s:St)(B:Option FA):Prop:=b=.exit 0/\aA s (Dv r p q p.length)/\B=Bj r p q p.length 0
def puF(r:Nat)(p q:List aF)(i:Nat)(m:aF)(b:Exit)(s:St)(B:Option FA):Prop:=b=.exit 2/\aA s (Co r p q i m q.length)/\B=Bj r p q i q.length
def Y2(r:Nat)(p q:List aF)(Q:bS p)(R:bS q)(h:qN p q)(U:p.length<=216)(V:q.length<=216){i:Nat}(n:i<p.length){s:St}(y:aA s (Co r p q i p[i] 0)) :
  MR P 54 (GC.loop g.ui).er s (Bj r p q i 0) (puF r p q i p[i]):=by
 refine MR.nL (I:=puJ r p q i p[i]) q.length ⟨0,by omega,by omega,y,rfl⟩ ?_;rintro W s B ⟨k,S,rfl,y,rfl⟩;refine MR.eE y ?_;unfold g.ui;refine MR.dG ?_;simp[Co,aB];by_cases j:k<q.length
 .refine MR.cK (MR.eY (t:=true) (by simp[j]) (λ_=>MR.pE ⟨λ_=>?_,λh=>absurd rfl h⟩) (λh=>by cases h));simp;refine MR.cK (MR.kR (MR.dG ?_));simp;refine bK j ?_;refine MR.dG ?_;simp;refine MR.dG ?_;have o:∀ {e:Ex},e.ok=true->(0<=e.a/\e.a<=5)/\(0<=e.b/\e.b<=5)/\0<=e.c/\e.c<=5:=λh=>by rw[Ex.b0]at h;omega
  have X:=o (aF.b0.1 (Q i n).1).1;have Y:=o (aF.b0.1 (R k j).1).1;have F:IntKind.i64.wrap (p[i].e.a+q[k].e.a)=p[i].e.a+q[k].e.a:=cT;have G:IntKind.i64.wrap (p[i].e.b+q[k].e.b)=p[i].e.b+q[k].e.b:=cT;have J:IntKind.i64.wrap (p[i].e.c+q[k].e.c)=p[i].e.c+q[k].e.c:=cT;simp;refine jT λx d l f=>?_;simp[g.qz,F];refine d _ ?_;clear d f l;refine jT λx d l f=>?_;simp[g.qz,G];refine d _ ?_;clear d f l;refine jT λx d l f=>?_;simp[g.qz,J];refine d _ ?_;clear d f l;refine jT λx d l f=>?_;simp[g.qz];refine f _ _ ?_;clear d f l;simp;refine MR.yW rfl (by decide) ?_;simp;have z:=aT.sm.mono (h.hp _ (bU n)) (show 524288<=1048576 by omega);have C:=aT.sm.mono (h.hq _ (bU j)) (show 524288<=1048576 by omega);refine bA (SN p[i].bE q[k].bE z C) rfl ?_;simp;have O:=Uh (k:=k) n (h.hm i k n) (Ec _ (AX _ _));refine Ma (args:=[enc (p[i].e.add q[k].e),enc (cR (p[i].bE.v*q[k].bE.v))]) (YI (p[i].nD q[k]) _ ⟨⟨by show 0<=p[i].e.a+q[k].e.a;omega,by show p[i].e.a+q[k].e.a<=10;omega⟩,⟨by show 0<=p[i].e.b+q[k].e.b;omega,by show p[i].e.b+q[k].e.b<=10;omega⟩,by show 0<=p[i].e.c+q[k].e.c;omega,by show p[i].e.c+q[k].e.c<=10;omega⟩ ((QG (h.hp _ (bU n)) (h.hq _ (bU j)) (by omega)).mono (by omega)) O) (by simp[Ex.add]) (Ik _) (Il _) ?_;simp;refine⟨λ_=>MR.cE ?_,λh=>absurd rfl h⟩;have D:=aZ k;simp[D];refine⟨_,?_,k+1,by omega,rfl,aA.to [1,5,7,14,15,16,21,22,23] [((2,0),2)] (by simp[Co,aB]),?_⟩
  .omega
  .simp only[Bj];rw[YZ n j,Xx]
 .have u:k=q.length:=by omega
  refine MR.cK (MR.eY (t:=false) (by simp[j]) (λh=>by cases h) (λ_=>MR.uW ⟨λh=>(by cases h),λ_=>⟨λh=>(by cases h),λ_=>⟨rfl,?_,?_⟩⟩⟩))
  .exact aA.to [1,5,7,14,15,16,21,22,23] [((2,0),2)] (by simp[Co,aB,u])
  .rw[u]
theorem Qc:∀ p q:List aF,(oU p q).length=p.length*q.length
 | [],q=>by simp[oU]
 | m::p,q=>by rw[show oU (m::p) q=q.map m.nD++oU p q from rfl,gQ,ra,Qc p q,qH,Ah];omega
def YU(p q:List aF)(F:bS p)(G:bS q)(h:qN p q):zS 242 [.sl (ens p),.sl (ens q)] (.sl (ens (gE p q))):=by
 have O:=tU F;have Q:=tU G;have C:fP p 1048576:=λm u=>aT.sm.mono (h.hp m u) (by omega);have D:fP q 1048576:=λm u=>aT.sm.mono (h.hq m u) (by omega);refine Sp.fZ c.pi (by simp) ?_;unfold g.pi;generalize S:(λo s (_:Option FA)=>iD [(4,none)] (RV.pure (.sl (ens (gE p q)))) o s)=Post;refine MR.dG ?_;simp;refine MR.cK (MR.mC (eC.cons (I4 λr=>?_)));refine xT [[12]] ?_;simp;refine MR.cK (MR.dG ?_);simp;refine bA (ID p C (by omega)) rfl ?_;simp[zG F];refine MR.kR (MR.mono (MR.nL (Post:=puE r p q) (I:=puI r p q) p.length ⟨0,by omega,by omega,aA.to [1,5,14,15,16] [] (by simp[Dv,aB]),by simp[Bj,T3,qS,n3,pD]⟩ ?_) ?_)
 .rintro Y s B ⟨i,X,rfl,l,rfl⟩;refine MR.eE l ?_;unfold g.xb;refine MR.dG ?_;simp[Dv,aB];by_cases d:i<p.length
  .refine MR.cK (MR.eY (t:=true) (by simp[d]) (λ_=>MR.pE ⟨λ_=>?_,λh=>absurd rfl h⟩) (λh=>by cases h));simp;refine MR.cK (MR.kR (MR.dG ?_));simp;refine bK d ?_;refine MR.dG ?_;simp;refine bA (ID q D (by omega)) rfl ?_;simp[zG G];refine MR.kR (MR.mono (Y2 r p q F G h O Q d (aA.to [1,5,7,14,15,16,21,22,23] [((7,0),2)] (by simp[Co,aB]))) ?_);rintro o s B ⟨rfl,l,rfl⟩;have R:=aZ i;refine⟨λ_=>MR.eE l (MR.cE ?_),λh=>absurd rfl h⟩;simp[Co,aB,R];refine⟨_,?_,i+1,by omega,rfl,aA.to [1,5,14,15,16] [] (by simp[Dv,aB]),?_⟩
   .omega
   .simp only[Bj];rw[T4 d]
  .have j:i=p.length:=by omega
   refine MR.cK (MR.eY (t:=false) (by simp[d]) (λh=>by cases h) (λ_=>MR.uW ⟨λh=>(by cases h),λ_=>⟨λh=>(by cases h),λ_=>⟨rfl,?_,?_⟩⟩⟩))
   .exact aA.to [1,5,14,15,16] [] (by simp[Dv,aB,j])
   .rw[j]
 .rintro o s B ⟨rfl,l,rfl⟩;refine⟨λ_=>?_,λh=>absurd rfl h⟩;have b:=Bq (nC (oU p q));have z:∀ x∈qS (nC (oU p q)) [],x.2.sm 1048576:=by
   rw[<- z41];cases y:p.length with
   | zero=>intro x f;rw[T3]at f;cases f
   | succ n =>
    have:=Uh (p:=p) (q:=q) (k:=q.length) (i:=n) (by omega) (h.hm n q.length (by omega)) (Ec _ (AX _ _));rw[T4 (by omega)]at this;exact λx f=>(this x f).2
  unfold Bj;rw[z41];refine MR.eE l (MR.freeze (t:=5) rfl ?_);refine MR.cE ?_;subst S;simp[Dv,aB];have y:=tU (AX p q);have J:(nC (oU p q)).length<=46656:=by
   have U:(oU p q).length=p.length*q.length:=by exact Qc p q
   have V:=mT O Q;have W:(nC (oU p q)).length<=(oU p q).length:=kB _ _;omega
  refine EF (MK r (qS (nC (oU p q)) []) (λx f=>aT.sm.mono (z x f) (by omega)) b.Cp (by have:=b.len;omega) (gE p q) (z40 b) (Vb (AX p q))) (by simp) ⟨jF _ _ rfl,by decide,by simp[-gW,ens,eL];omega⟩ _ rfl ?_;simp[aI]
def OM(v w:GW)(b:v.sm 1048576)(d:w.sm 1048576):zS 200 [enc v,enc w] (enc (iB 1 v w)):=by refine Sp.vz c.bw λ_=>?_;simp[g.bw];refine bA (SN v.q w.q b.q d.q) rfl ?_;simp[iB]
def Wl(v w:GW):zS 228 [enc v,enc w] (enc (iB 4 v w)):=by refine Sp.vz c.fa λ_=>?_;simp[g.fa,iB,Pm]
def ycb(v w:GW)(i:v.si 2)(j:w.si 2):zS 212 [enc v,enc w] (enc (iB 2 v w)):=by
 refine Sp.vz c.bz λ_=>?_;have k:=pY.1 i;have l:=pY.1 j;have h:IntKind.i64.wrap (v.cost+w.cost)=v.cost+w.cost:=cT;obtain b|b:=iK v.inf
 .simp[g.bz,iB,b,dP]
 obtain d|d:=iK w.inf
 .simp[g.bz,iB,b,d,dP]
 simp[g.bz,iB,b,d,h];refine⟨λf=>by simp[f,dP],λf=>by simp[show ¬ 1099511627776<v.cost+w.cost by omega,dP]⟩
def XN(v w:GW)(b:bS v.aR)(d:bS w.aR)(h:qN v.aR w.aR):zS 241 [enc v,enc w] (enc (iB 5 v w)):=by refine Sp.vz c.ir λ_=>?_;simp[g.ir];refine bA (YU v.aR w.aR b d h) rfl ?_;simp[iB,dP]
def P5(k:Int)(j:1<=k/\k<=5)(v w:GW)(b:v.sm 1048576)(d:w.sm 1048576)(f:v.si k)(h:w.si k)(i:k=5->qN v.aR w.aR):Sp P (UN k) [enc v,enc w] (.pure (enc (iB k v w))):=by
 have:k=1\/k=2\/k=3\/k=4\/k=5:=by omega
 obtain rfl|rfl|rfl|rfl|rfl:=this
 .exact OM v w b d
 .exact ycb v w f h
 .have e:iB 3 v w=iB 1 v w:=by rw[iB,iB];simp
  rw[e];exact OM v w b d
 .exact Wl v w
 .exact XN v w (f.2.2.2.2.2.2.2.2 rfl) (h.2.2.2.2.2.2.2.2 rfl) (i rfl)
def W1(r:aC)(v w:GW)(j:v.sm 1048576)(k:w.sm 1048576)(h:v.aJ r)(i:w.aJ r)(f:r.kind≠6)(o:r.kind=5->qN v.aR w.aR):zS 114 [enc r,enc v,enc w] (enc (iB r.kind v w)):=by have d:=h.1;have b:=aC.cJ d f;have u:v.tk r=v:=aX h;have x:w.tk r=w:=aX i;have l:=B3 r v j;have n:=B3 r w k;rw[u]at l;rw[x]at n;refine Sp.vz c.bl λ_=>?_;simp[g.bl];refine bA (A8 r) rfl ?_;simp[d];refine aW l ?_;simp;refine aW n ?_;simp[f];obtain⟨C,D,F,G,y,z,p⟩:=ym r.kind ⟨b.1,b.2.1⟩;refine bA (CE r.kind ⟨b.1,b.2.1⟩) rfl ?_;simp[p];refine aW (P5 r.kind ⟨b.1,b.2.1⟩ v w j k (h.2.1 f) (i.2.1 f) o) ?_;simp
def YK(k:Int)(b:1<=k/\k<=5)(v w:GW)(i:Nat)(l:i<v.parts.length)(o:i<w.parts.length)(G:i<=3)(h:v.parts[i].sm 1048576)(j:w.parts[i].sm 1048576)(p:v.parts[i].si k)(u:w.parts[i].si k)(d:k=5->qN v.parts[i].aR w.parts[i].aR) :
  zS 156 [xI k,.int .i64 i,.ref (enc v),.ref (enc w)] (enc (iB k v.parts[i] w.parts[i])):=by
 obtain⟨z,C,D,F,x,y,f⟩:=ym k b;rw[f];refine Sp.fD c.kb (by simp) ((aA.dV (t:=2) (v:=enc v) (n:=8) (by simp) (by simp)).trans (aA.dV (t:=3) (v:=enc w) (n:=8) (by simp) (by simp))) ?_;simp[g.kb];refine bK l ?_;refine bK o ?_;refine aW (P5 k b v.parts[i] w.parts[i] h j p u d) ?_;simp
def X8(r:aC)(v w:GW)(n:v.sm 1048576)(o:w.sm 1048576)(d:v.aJ r)(j:w.aJ r)(z:r.kind=5->qN v.aR w.aR)(k:∀ i (h:i<r.parts.length) (p:i<v.parts.length) (J:i<w.parts.length),r.parts[i]=5->qN v.parts[i].aR w.parts[i].aR) :
  zS 114 [enc r,enc v,enc w] (enc (r.times v w)):=by
 have f:=d.1;by_cases b:r.kind=6;rotate_left
 .have p:r.times v w=iB r.kind v w:=by simp[aC.times,b]
  rw[p];exact W1 r v w n o d j b z
 have l:=aC.bQ f b;have G:v.tk r=v:=aX d;have I:w.tk r=w:=aX j;have u:=B3 r v n;have x:=B3 r w o;rw[G]at u;rw[I]at x;have D:=(d.2.2 b).1;have F:=(j.2.2 b).1;have C:(qD r.parts v.parts w.parts).length=r.parts.length:=Gp D F;refine Sp.vz c.bl λ_=>?_;simp[g.bl];refine bA (A8 r) rfl ?_;simp[f];refine aW u ?_;simp;refine aW x ?_;simp[b];refine bA (HC r l.2.2 l.2.1 156 [.ref (enc v),.ref (enc w)] (qD r.parts v.parts w.parts) C λi h y=>?_) ?_ ?_
 .rw[Gn h (by omega) (by omega) y];exact YK r.parts[i] (l.2.2 _ (bU h)) v w i (by omega) (by omega) (by omega) (n.parts _ (bU _)) (o.parts _ (bU _)) ((d.2.2 b).2.2 i h (by omega)) ((j.2.2 b).2.2 i h (by omega)) (k i h (by omega) (by omega))
 .simp[A7,AJ,b]
 simp[aC.times,b]
def ye9(p q:List aF)(D f B j:Nat)(hp:bS p)(I:bS q)(J:lU D B p)(O:lU f j q)(l:D≠0)(d:f≠0)(G:D*f<4294967296^1048576)
  (F:46656*(B*j)<4294967296^1048576) (hs:fP p 524288) (o:fP q 524288):qN p q:=by
 have U:=tU hp;have n:=tU I;have y:=Eb J hp;have z:=Eb O I;have b:D*f≠0:=yr2 l d;refine⟨hs,o,λi k h=>?_⟩;have Q:=KN (m:=p[i]) (q:=q.take k) (y _ (bU h)) (λx u=>z x (iC u)) (KK (p:=p.take i) (λx u=>y x (iC u)) z b) b;refine AK Q (Ec _ (AX _ _)) b G (oY ?_ F);have R:(p.take i).length+1<=216:=by simp;omega
 have S:(q.take k).length<=216:=by simp;omega
 clear G F;generalize B*j=C at *
 calc (p.take i).length*(q.length*C)+(q.take k).length*C<=(p.take i).length*(216*C)+1*(216*C):=Nat.add_le_add (Aa _ (jU _ n)) (by rw[Nat.one_mul];exact jU _ S)
  _=((p.take i).length+1)*(216*C):=by rw[sT]
  _<=216*(216*C):=jU _ R
  _=46656*C:=by omega
structure dB {r:aC} (M:cQ r):Prop where
 pw:∀ {v w:GW} {n:Nat},n<=M.lim->v.aJ r->w.aJ r->M.mb n v->M.mb n w->zS 74 [enc r,enc v,enc w] (enc (r.plus v w))
 rS:∀ {v w:GW} {n:Nat},n<=M.lim->v.aJ r->w.aJ r->M.mb n v->M.mb n w->zS 114 [enc r,enc v,enc w] (enc (r.times v w))
 pr:∀ {w:GW} {n:Nat},n<=M.lim->w.aJ r->M.mb n w->w.sm 400000
section
variable {E H s:Nat} (L:LB E H s)
include L in
theorem Ug{v w:GW}{n:Nat}(d:v.qQ E H n)(f:w.qQ E H n)(hs:jE s n<=400000)(pv:bS v.aR)(h:bS w.aR):qN v.aR w.aR:=by have b:H^(n / 100)*2^(n % 100) / 46656<4294967296^jE s n:=oY (Cc _ _) (xE L n);have k:fP v.aR (jE s n):=AK (yg d.p) pv (L.ya _) (DM L n) b;have l:fP w.aR (jE s n):=AK (yg f.p) h (L.ya _) (DM L n) b;obtain⟨i,j⟩:=TV L hs hs;exact ye9 _ _ _ _ _ _ pv h (yg d.p) (yg f.p) (L.ya _) (L.ya _) i j (k.jX (by omega)) (l.jX (by omega))
def Zh(r:aC)(F:r.ok=true)(lim:Nat)(k:216<=jE s lim)(f:jE s lim<=400000):dB (UL L r F lim k f):=by
 refine⟨λ{v w n} j d b x l=>?_,λ{v w n} j d b x l=>?_,λ{w n} j b l=>(AH L b (GW.lb.mono L l j) k).mono f⟩
 .exact PL r v w (jE s lim) (AH L d (GW.lb.mono L x j) k) (AH L b (GW.lb.mono L l j) k) f (by omega) d b
 .have y:=GW.lb.mono L x j;have z:=GW.lb.mono L l j;have G:v.sm 400000:=(AH L d y k).mono f;have I:w.sm 400000:=(AH L b z k).mono f;refine X8 r v w (G.mono (by omega)) (I.mono (by omega)) d b (λu=>?_) λi h C D u=>?_
  .exact Ug L y.o z.o f (jJ (d.2.1 (by rw[u];decide))) (jJ (b.2.1 (by rw[u];decide)))
  .have p:r.kind=6:=by apply GK;intro p;have:=(aC.cJ F p).2.2;rw[this]at h;simp at h
   exact Ug L (y.ps _ (bU C)) (z.ps _ (bU D)) f (jJ ((d.2.2 p).2.2 i h C)) (jJ ((b.2.2 p).2.2 i h D))
end
def QQ{r:aC}(M:cQ r){n:Nat}{l:List aE}(h:∀ x∈l,M.mb n x.w/\x.w.aJ r)(k:Nat)(f:k<=l.length) :
  ∀ x∈eU aE.key (lE r) id (l.take k),M.mb (kc aE.key (l.take k) x.key+n) x.w/\x.w.aJ r :=
 KW (key:=aE.key) (up:=lE r) (nw:=id) (λ_ _=>rfl) (λ_=>rfl) (Q:=λc x=>M.mb (c+n) x.w/\x.w.aJ r) (λh k=>⟨M.mono h.1 (by omega),h.2⟩) (λx b=>⟨M.mono (h x b).1 (by show n<=0+n;omega),(h x b).2⟩)
  (λc z x b _ d=>⟨by have:=M.plus d.2 (h x b).2 d.1 (M.mono (h x b).1 (by omega));exact M.mono this (by omega),(BU d.2 (h x b).2:(r.plus z.w x.w).aJ r)⟩) k f
def P4{r:aC}{M:cQ r}(X:dB M)(l:List aE)(n B:Nat)(hn:B+n<=M.lim)(hB:∀ q,kc aE.key l q<=B)(hl:l.length<=100000)(h:∀ x∈l,M.mb n x.w/\x.w.aJ r) :
  zS 27 [enc r,.sl (ens l)] (.sl (ens (cV r l))):=by
 have hs:=gB (key:=aE.key) l;have h':∀ x∈bW aE.key l,M.mb n x.w/\x.w.aJ r:=λx C=>h x ((hs.2.2 x).1 C);have af:=QQ M h';have Q:∀ k q,kc aE.key ((bW aE.key l).take k) q<=B:=λk q=>dM (HT _ _ _) (by rw[FL (F6 l)];exact hB q);have ad:=λk (i:k<=(bW aE.key l).length)=>FE (key:=aE.key) (up:=lE r) (nw:=id) (λ_ _=>rfl) (λ_=>rfl) (bW aE.key l) k i;unfold cV;generalize hS:bW aE.key l=S at *
 have U:S.length=l.length:=hs.2.1;have d:∀ x:aE,(enc x).cells.all PV.one=true:=λx=>by simp[PV.cells]
 refine Sp.vz c.fm λ_=>?_;simp[g.fm];refine ED (VY l (by omega)) (by simp) ⟨jF _ _ rfl,by decide,by simp[-gW,ens,eL];omega⟩ (by simp) ?_;simp;refine MH (Wb rfl d (key:=aE.key) (cf:=73) (D:=λ_=>True) (λx y _ _=>⟨_,QC x y,CG rfl⟩) l (by omega) λ_ _=>trivial) (by simp) rfl rfl (by simp) (by simp) (by simp[hS,U]) rfl (jF _ _ rfl) (cells_one d _) (by simp) ?_;simp;rw[hS]
 refine b6 (S:=λk:Nat=>aB [(2,.ptr 2 0 0 0),(6,.own 1 0 0 (eU aE.key (lE r) id (S.take k)).length),(14,.own 3 0 0 S.length),(15,.p (.int .i64 S.length)),(16,.p (.int .i64 k))] [(2,⟨2,[.p (enc r)]⟩),(1,⟨12,aK (eU aE.key (lE r) id (S.take k))⟩),(3,⟨12,aK S⟩)]) (I:=λk=>k<=S.length) (m:=λk=>S.length - k) 0
  (aA.nl 6 77 12 rfl (aA.to [2,6,14,15,16] [((2,0),2),((77,0),1),((11,0),3)] (by simp[U,eU]))) (by omega) ?_
 rintro k h1 R u hr C;have e3:=aZ k;have W:=ad k h1;have F:=af k h1;generalize Y:eU aE.key (lE r) id (S.take k)=O at *
 by_cases i:k<S.length;rotate_left
 .have:k=S.length:=by omega
  subst this;have al:=Y;rw[eZ (dE _)]at Y;rw[Y]at C hr;simp[g.rh,aB];refine C _ _ ?_;simp;refine IV (VL 77 [.ref (enc r)] (λx=>decide (x.w=r.zero)) O (by omega) λx C=>YJ x r ((X.pr (show kc aE.key (S.take S.length) x.key+n<=M.lim by have:=Q S.length x.key;omega) (F x C).2 (F x C).1).mono (by omega))) (by simp[A7,AJ]) rfl rfl (by simp) (by simp) (by simp;have:=kB (λx:aE=>!decide (x.w=r.zero)) O;omega) rfl (jF _ _ rfl) (cells_one d _) (by simp) (kB _ _) ?_;generalize hF:O.filter (λx=>!decide (x.w=r.zero))=f at *
  have ag:f.length<=O.length:=by rw[<- hF];exact kB _ _
  have G:=It f (List.replicate (O.length - f.length) (⟨0,0,0,0,dT⟩:aE));have J:f.length<=(ens (f++List.replicate (O.length - f.length) (⟨0,0,0,0,dT⟩:aE))).length:=by simp[-gW,ens]
  generalize ens (f++List.replicate (O.length - f.length) (⟨0,0,0,0,dT⟩:aE))=A0 at *
  cases ao:A0.all PV.flat
  .simp[aI];rw[G];simp[J]
  .simp;rw[G];simp[J]
 have j:=h' _ (bU i);have b:=EI (key:=aE.key) (up:=lE r) (nw:=id) i;rw[Y]at b;have cz:=yC j.2.1;have pz:=z6 j.2;obtain rfl|⟨o,z,rfl⟩:=B' O
 .simp[g.rh,aB,i];refine bK i ?_;refine bA (wG r) rfl ?_;simp;refine aW (X.pw (n:=n) (by omega) j.2 cz j.1 (M.mono M.zero (vI n))) ?_;rw[pz];simp[e3];refine u (k+1) _ (aA.to [2,6,14,15,16] [((2,0),2),((59,0),1),((3,0),3)] ?_) (by omega) (by omega);rw[b];simp[aB,gS]
 .have e4:IntKind.i64.wrap (o.length:Int)=(o.length:Int):=cL (by omega) (by simp at W;omega);simp[g.rh,aB,i];refine bK i ?_;refine bA (wG r) rfl ?_;simp;refine aW (X.pw (n:=n) (by omega) j.2 cz j.1 (M.mono M.zero (vI n))) ?_;rw[pz];simp[e4];refine aW (QC z S[k]) ?_;simp[e4];have hz:=F z (by simp);have V:eW z.key S[k].key=0 ↔ z.key=S[k].key:=CF (by simp[aE.key]);refine⟨λh0=>?_,λh0=>?_⟩
  .rw[xV,FF (key:=aE.key) (z:=z) (y:=S[k]) (V.1 h0)]at b;refine aW (X.pw (n:=kc aE.key (S.take k) z.key+n) (by have:=Q k z.key;omega) hz.2 j.2 hz.1 (M.mono j.1 (by omega))) ?_;simp[e3];refine u (k+1) _ (aA.to [2,6,14,15,16] [((2,0),2),((1,0),1),((3,0),3)] ?_) (by omega) (by omega);rw[b];simp[aB,lE]
  .rw[xV,CI (key:=aE.key) (z:=z) (y:=S[k]) (λh=>h0 (V.2 h))]at b;simp[e3];refine⟨by simp at W;omega,u (k+1) _ (aA.to [2,6,14,15,16] [((2,0),2),((59,0),1),((3,0),3)] ?_) (by omega) (by omega)⟩;rw[b];simp[aB]
open Go.Proofs
abbrev nA:SI:=⟨13,by decide,261,191,159,158,118,67⟩
def c.yx:aP P nA.sw=some ⟨38,5,(GD nA).er,[]⟩:=by kernel_rfl
def c.yy:aP P nA.ro=some ⟨58,5,(Gz nA).er,[]⟩:=by kernel_rfl
def c.yz:aP P nA.sm=some ⟨220,5,(Dz nA).er,[]⟩:=by kernel_rfl
def c.y4:aP P nA.ins=some ⟨53,4,(Fs nA).er,[]⟩:=by kernel_rfl
def c.y5:aP P nA.st=some ⟨63,3,(GB nA).er,[]⟩:=by kernel_rfl
def c.y6:aP P nA.so=some ⟨9,2,(GA nA).er,[]⟩:=by kernel_rfl
def yep:pK nA:=⟨c.yx,c.yy,c.yz,c.y4,c.y5,c.y6⟩
section
variable {α : Type} [Enc α]
def Wh(f:Enc.sz α = 13)(b:∀ x : α,(enc x).cells.all PV.one=true){key : α -> List Int}{cf:FuncId}{D : α -> Prop}(i:∀ x y,D x->D y->∃ n:Int,Sp P cf [enc x,enc y] (.pure (.int .i64 n))/\(n<0 ↔ key x<key y))
  (l:List α) (d:l.length<=1000000) (h:∀ x∈l,D x):gO P 67 [.sl (ens l),.fn cf []] 0 13 (ens (bW key l)) (.pure (.bM [])):=LP yep f b i l d h
end
end Go.Ab
namespace Go.Ab
open Enc (enc)
attribute [local simp] iJ bP.aY
structure aH where
 p:Int
 q:Int
 f:Int
 deriving DecidableEq
structure eS where
 i:Int
 o:Int
 t:aH
 w:GW
instance:Enc aH:=⟨λx=>.agg [.int .i64 x.p,.int .i64 x.q,.int .i64 x.f],3,by decide,λ_=>rfl⟩
instance:Enc eS:=⟨λx=>.agg ([.int .i64 x.i,.int .i64 x.o,.int .i64 x.t.p,.int .i64 x.t.q,.int .i64 x.t.f]++x.w.cl),13,by decide,λ_=>rfl⟩
@[simp] theorem yne(x:aH):enc x=.agg [.int .i64 x.p,.int .i64 x.q,.int .i64 x.f]:=rfl
@[simp] theorem yjw:Enc.sz aH=3:=rfl
@[simp] theorem yof(x:eS):enc x=.agg [.int .i64 x.i,.int .i64 x.o,.int .i64 x.t.p,.int .i64 x.t.q,.int .i64 x.t.f,.bool x.w.q.neg,.sl (ens x.w.q.num),.sl (ens x.w.q.den),.int .i64 x.w.cost,.bool x.w.inf,.int .u64 x.w.set.toNat,.sl (ens x.w.aR),.sl (ens x.w.parts)]:=rfl
@[simp] theorem yk3:Enc.sz eS=13:=rfl
def aH.key(x:aH):List Int:=[x.p,x.q,x.f]
def eS.key(x:eS):List Int:=x.t.key
def K7{x y:aH}:x=y ↔ x.key=y.key:=by cases x;cases y;simp[aH.key]
def Kz(x:eS):(enc x).cells.all PV.one=true:=by simp[PV.cells]
def XJ(x y:aH):zS 69 [enc x,enc y] (.int .i64 (eW x.key y.key)):=by rw[<- IL x.key y.key rfl,show List.zipWith eP x.key y.key=[eP x.p y.p,eP x.q y.q,eP x.f y.f] from rfl];refine Sp.vz c.nc λ_=>?_;simp[g.nc];refine bA (vZ x.p y.p) rfl ?_;simp;refine bA (vZ x.q y.q) rfl ?_;simp;refine bA (vZ x.f y.f) rfl ?_;simp;refine aW (K9 [eP x.p y.p,eP x.q y.q,eP x.f y.f] (by simp)) ?_;simp
def WK(x y:eS):zS 68 [enc x,enc y] (.int .i64 (eW x.key y.key)):=by refine Sp.vz c.gf λ_=>?_;simp[g.gf];refine aW (XJ x.t y.t) ?_;simp[eS.key]
def yem(l:List eS)(b:l.length<=1000000):gO P 67 [.sl (ens l),.fn 68 []] 0 13 (ens (bW eS.key l)) (.pure (.bM [])) :=
 Wh rfl Kz (key:=eS.key) (cf:=68) (D:=λ_=>True) (λx y _ _=>⟨_,WK x y,CG rfl⟩) l b λ_ _=>trivial
def Yy(x:eS)(r:aC)(b:x.w.sm 1048576):zS 117 [enc x,.ref (enc r)] (.bool (decide (x.w=r.zero))):=by refine Sp.fD c.jv (by simp) (aA.dV (t:=1) (v:=enc r) (n:=2) (by simp) (by simp)) ?_;simp[g.jv];refine aW (Ey r x.w b) ?_;simp
def LZ(t:GTrans)(s:Int)(C:t.aD.length<=100000):zS 115 [enc t,.int .i64 s] (.sl (ens (t.aD.filter λx=>decide (x.f=s)))):=by
 refine Sp.vz c.ju λ_=>?_;simp[g.ju]
 refine b6 (S:=λk:Nat=>aB [(1,.p (.int .i64 s)),(5,.own 1 0 0 ((t.aD.take k).filter λx=>decide (x.f=s)).length),(9,.p (.sl (ens t.aD))),(10,.p (.int .i64 t.aD.length)),(11,.p (.int .i64 k))] [(1,⟨12,aK ((t.aD.take k).filter λx=>decide (x.f=s))⟩)])
  (I:=λk=>k<=t.aD.length) (m:=λk=>t.aD.length - k) 0 (aA.nl 5 77 12 rfl (aA.to [1,5,9,10,11] [((77,0),1)] (by simp[aB]))) (by omega) ?_
 rintro k z R n D y;have l:=aZ k;have j:=kB (λx:aE=>decide (x.f=s)) (t.aD.take k);rw[fY]at j;by_cases d:k<t.aD.length
 .have u:(t.aD.take (k+1)).filter (λx=>decide (x.f=s))=(t.aD.take k).filter (λx=>decide (x.f=s))++(if t.aD[k].f=s then[t.aD[k]]else[]):=by rw[ed d,tW,EV];by_cases h:t.aD[k].f=s<;>simp[h]
  have b:∀ st',aA st' (aB [(1,.p (.int .i64 s)),(5,.own 1 0 0 ((t.aD.take (k+1)).filter λx=>decide (x.f=s)).length),(9,.p (.sl (ens t.aD))),(10,.p (.int .i64 t.aD.length)),(11,.p (.int .i64 (k+1:Nat)))] [(1,⟨12,aK ((t.aD.take (k+1)).filter λx=>decide (x.f=s))⟩)])->R .normal st':=λst' h=>n (k+1) st' h (by omega) (by omega);rw[u]at b;generalize (t.aD.take k).filter (λx=>decide (x.f=s))=o at *
  simp[g.ub,aB,d];refine bK d ?_;by_cases i:t.aD[k].f=s
  .rw[aX i]at b;simp[i,l];refine⟨by omega,b _ (aA.to [1,5,9,10,11] [((22,0),1)] ?_)⟩;simp[aB,i]
  .rw[bD i,kY]at b;simp[i,l];exact b _ (aA.to [1,5,9,10,11] [((1,0),1)] (by simp[aB]))
 .have:k=t.aD.length:=by omega
  subst this;simp[g.ub,aB];refine y _ _ ?_;simp
def Wg(l:List eS)(f:FuncId)(b:List PV)(p:eS->Bool)(z:l.length<=4611686018427387904)(n:∀ x∈l,Sp P f (enc x::b) (.pure (.bool (p x)))) :
  zS 157 [.sl (ens l),.fn f b] (.int .i64 (gN p l)):=by
 refine Sp.vz c.ou λ_=>?_;simp[g.ou]
 refine b6 (S:=λk:Nat=>aB [(0,.p (.sl (ens l))),(1,.p (.fn f b)),(7,.p (.int .i64 l.length)),(8,.p (.int .i64 k))] []) (I:=λk=>k<=l.length/\∀ x∈l.take k,p x=false) (m:=λk=>l.length - k) 0
  (aA.to [0,1,7,8] [] (by simp)) ⟨by omega,by simp⟩ ?_
 rintro k ⟨y,i⟩ R o u d;have j:=aZ k;simp[g.wn,aB];refine⟨λh=>?_,λh=>d _ _ ?_⟩
 .refine bK h ?_
  try simp
  refine bA (n l[k] (bU h)) (kX (by simp) (yn _ _)) ?_;obtain h3|h3:=iK (p l[k])
  .simp[h3];refine u _ ?_;simp[FD h i h3]
  .simp[h3,j];refine o (k+1) _ (aA.to [0,1,7,8] [] (by simp)) ⟨by omega,λx d=>?_⟩ (by omega);rw[ed h]at d;obtain d|d:=dN.1 d
   .exact i x d
   .simp at d;rw[d];exact h3
 .have:k=l.length:=by omega
  subst this;simp[Gj (p:=p) (l:=l) (by simpa using i)]
theorem Wf(J:FuncId)(b:List PV)(p:eS->Bool)(l:List eS)(hl:l.length<=1000000)(hp:∀ x∈l,Sp P J (enc x::b) (.pure (.bool (p x)))) :
  gO P 116 [.sl (ens l),.fn J b] 0 13 (ens (l.filter (λx=>!p x)++List.replicate (l.length - (l.filter λx=>!p x).length) (⟨0,0,⟨0,0,0⟩,dT⟩:eS))) (.same (l.filter λx=>!p x).length):=by
 have aq:(l.filter λx=>!p x).length<=l.length:=kB _ _;refine gO.cE c.od (by simp) rfl (by simp;omega) ?_;simp[g.od];refine aW (Wg l J b p (by omega) hp) ?_;cases z:l.findIdx? p with
 | none =>
  have V:=GQ.1 z;have hf:l.filter (λx=>!p x)=l:=GL.2 λx d=>by simp[V x d]
  have d:gN p l = -1:=by simp[gN,z]
  simp[d,hf]
 | some k =>
  obtain⟨hk,al,y⟩:=GP.1 z;have d:gN p l=k:=by simp[gN,z]
  have ag:¬ ((k:Int) = -1):=by omega
  have e1:=aZ k;simp[d,ag,e1];have ao:(l.take k).filter (λx=>!p x)=l.take k:=List.filter_eq_self.2 λx d=>by rw[List.mem_take_iff_getElem]at d;obtain⟨i,z,rfl⟩:=d;have:=y i (by omega);simpa using this
  have F:(l.take (k+1)).filter (λx=>!p x)=l.take k:=by rw[ed hk,tW,ao];simp[al]
  refine b6 (S:=λx:List eS × Nat × Nat=>aB [(0,.own bC 0 0 l.length),(1,.p (.fn J b)),(5,.p (.int .i64 x.2.1)),(6,.p (.int .i64 x.2.2))] [(bC,⟨13,aK x.1⟩)])
   (I:=λx=>x.1.length=l.length/\x.2.1<x.2.2/\x.2.2<=l.length/\x.1.take x.2.1=(l.take x.2.2).filter (λx=>!p x)/\x.1.drop x.2.2=l.drop x.2.2/\x.2.1<=l.length) (m:=λx=>l.length - x.2.2) (l,k,k+1)
   (aA.to [0,1,5,6] [((bC,0),bC)] (by simp)) ⟨rfl,by simp,by simp;omega,by rw[F],rfl,by simp;omega⟩ ?_
  rintro⟨L,i,j⟩ ⟨o,h2,h3,f,O,Q⟩ R V hr ap;simp only at o h2 h3 f O Q;simp[g.v8,aB];refine⟨λU=>?_,λU=>ap _ _ ?_⟩
  .have e2:=aZ j;have e3:=aZ i;have Y:L[j]?=some l[j]:=by
    have:(L.drop j)[0]?=(l.drop j)[0]?:=by rw[O]
    simpa[U]using this
   refine⟨by omega,eD Y ?_⟩
   try simp
   refine bA (hp l[j] (bU U)) (kX (by simp) (yn _ _)) ?_;have C:(l.take (j+1)).filter (λx=>!p x)=(l.take j).filter (λx=>!p x)++(if p l[j]then[]else[l[j]]):=by rw[ed U,tW];by_cases h:p l[j]<;>simp[h]
   obtain u|u:=iK (p l[j])
   .simp[u,e2];refine V (L,i,j+1) _ (aA.to [0,1,5,6] [((bC,0),bC)] (by simp)) ⟨o,by show i<j+1;omega,by show j+1<=l.length;omega,by show L.take i=_;rw[C,f];simp[u],?_,Q⟩ (by show l.length - (j+1)<l.length - j;omega);show L.drop (j+1)=l.drop (j+1);rw[<- List.drop_drop,O,uQ]
   .simp[u];refine⟨by omega,?_⟩;refine eD (l:=L) (n:=i) (x:=L[i]'(by omega)) (by simp) ?_;simp[e2,e3];have G:(L.set i l[j]).take (i+1)=L.take i++[l[j]]:=by rw[ed (by simp;omega),Nr (dE i)];simp
    refine V (L.set i l[j],i+1,j+1) _ (aA.to [0,1,5,6] [((bC,0),bC)] (by simp)) ⟨by simp[o],by show i+1<j+1;omega,by show j+1<=l.length;omega,by show(L.set i l[j]).take (i+1)=_;rw[G,C,f];simp[u],?_,by show i+1<=l.length;omega⟩ (by show l.length - (j+1)<l.length - j;omega);show(L.set i l[j]).drop (j+1)=l.drop (j+1);rw[Jy (by omega),<- List.drop_drop,O,uQ]
  .have ad:j=l.length:=by omega
   subst ad;rw[kK]at f;have X:i=(l.filter λx=>!p x).length:=by rw[<- f];simp;omega
   generalize (l.filter λx=>!p x)=D at *
   subst X;have ht:(aK L).take D.length=aK D:=by rw[H5,f]
   have au:min D.length l.length=D.length:=uN Q;have af:D.length+(l.length - D.length)=l.length:=by omega
   simp[o,Q,af,f];have W:L.drop l.length=[]:=by rw[<- o];simp
   rw[W,Kr,kY];rfl
end Go.Ab
namespace Go.Ab
structure mL where
 p:Cz->St->Prop
 m:∀ Z st Z' st',cY Z st Z' st'->p Z st->p Z' st'
def IS{st:St}{s g:Nat}{o:bI}(h:st.site s=[])(b:st.obj s g=some o):False:=by simp_all
theorem qB.later{o:Option zaV}{K:Ctx}{Z Z':Cz}{st st':St}{w w':World}(hl:mN Z st w Z' st' w')(h:qB o K Z st w):qB o K Z' st' w':=by
 cases o with
 | none=>trivial
 | some m =>
  obtain⟨b,d,es,clock,h3,i,j,k⟩:=h;obtain⟨l,n⟩:=hl.f _ b;exact⟨l,d,es,clock,by rw[n];exact h3,i.mono hl.M,j.mono hl.M,k⟩
def gH(q:mL)(o:Option zaV):FA:=⟨0,λ_ _=>True,λ_ _ _ _ h=>h,false,true,λK Z st w=>q.p Z st/\qB o K Z st w,λ_ _ _ _ _ _ _ b h=>⟨q.m _ _ _ _ b.Bl h.1,qB.later b h.2⟩⟩
structure DO (o o':Option zaV) (A A':Option FA):Prop where
 get:∀ K Z st w,nN A K Z st w->qB o K Z st w
 put:∀ K Z st w Z' st' w',nN A K Z st w->zF (Au o) Z st w Z' st' w'->qB o' K Z' st' w'->nN A' K Z' st' w'
def DO.gH(q:mL)(o o':Option zaV):DO o o' (some (gH q o)) (some (gH q o')) :=
 ⟨λ_ _ _ _ h=>h.2,λ_ _ _ _ _ _ _ h hl b=>⟨q.m _ _ _ _ (.dW hl.z) h.1,b⟩⟩
def D6(b:HV)(st:St)(d:Option Nat):St:=(sO b st (d.getD 0)).2.put d (sO b st (d.getD 0)).1
section
variable {P:Program} {K:Ctx} {Z Z' Z2:Cz} {st st' st1 st2:St} {w w':World} {a:Act} {N:Nat} {A B:Option FA} {Post:Exit->St->Option FA->Prop} {cC:St->Option FA->Prop} {ks:List Nat} {v:AV}
theorem IP{d:Option Nat}{f:FuncId}{xs:List bP}{vs:List AV}{hp l:List Site}{U p:Option zaV}{u:HV}(C:kU P f vs hp U u l p)(D:DO U p A B)(z:p.map (·.1)=U.map (·.1))(ag:xs.map st.ev=vs)(hk:qA st hp hp)(ad:l.map (·.1)=hp.map (·.1))
  (I:(lC (hp.map (·.1)) vs&&dS (hp.map (·.1)) hp&&vU (hp.map (·.1)) u&&dS (hp.map (·.1)) l)=true) (k:cC (D6 u ⟨st.sl,l++st.hp⟩ d) B):ql P N ⟨d,.call f xs,none⟩ st A cC:=by
 intro al j o K Z w a Q Kt hN hj V n hA hK;obtain⟨h1,h2,h3,h4⟩:=EE V;obtain⟨R,h,af,hf,hh,G⟩:=MI h1;have hg:o.guard=none:=by
  cases hg:o.guard with
  | none=>rfl
  | some jb =>
   rw[hg]at h2;simp only[A3]at h2
   grind
 have hw:Region.wanted o (yielded al a.tmps)=true:=by simp[Region.wanted,hg]
 have hd:d=o.dst:=h3;obtain⟨W,C⟩:=C;have J:=CJ G n;rw[ag]at J;have X:=fH hh n;have Y:a.eval h=.func (.func f) #[] #[]:=by
  have hp:=X.cF;generalize a.eval h=F at hp ⊢;cases hp with
  | fn _ _ ap h=>cases h;rfl
 have O:(execOp a.eval o).run P w=.ok (.enter f ((R.args.toList.map a.eval).toArray)) w:=by
  have:=Gq (P:=P) (w:=w) (args:=(R.args.toList.map a.eval).toArray) W;simp only[execOp,af,resolve,hf,Y,Deferred.ofValue,mW,oJ,qF,invoke];have e : #[]++R.args.map a.eval ++ #[]=(R.args.toList.map a.eval).toArray:=by simp[<- Array.toList_map]
  rw[e];exact this
 simp only[jO]at I;obtain⟨⟨⟨r1,r2⟩,r3⟩,r4⟩:=I;have i:∀ s,(hp.map (·.1)).contains s=true->st.site s=look hp s []:=λs n=>by obtain⟨q,hq,rfl⟩:=cA.1 (E3.1 n);exact IG hk q hq
 refine(show o.wp P a w Kt Q from ?_) |> λh=>by unfold wpOp;simp only[hj,hw,cH];exact .inl h
 unfold Oper.wp;rw[O,E2];have y:=D.get _ _ _ _ hA;obtain⟨u1,u2⟩:=Po i r2 n.heap y;refine(C Z w _ u1 u2 (aG.gU (st:=st) (st2:=⟨[],hp⟩) (Z2:=Z) (λs h=>(i s h).symm) (λ_ _ h=>h) (λ_ _ _=>⟨rfl,rfl⟩) J r1)).mono ?_;rintro e w' ⟨x,Z',rfl,p1,p2,p3,p4⟩;obtain⟨Z2,q1,q2,q3,q4,q5⟩:=Qo z ad i r4 (by cases u with|av v=>exact r3|fr _ _=>rfl|bx _ _ _=>exact(Bool.and_eq_true_iff.1 r3).2) n.heap y p1 p2 p3 p4;obtain⟨Z3,v,ao,e1,t1,t2,t3,t4,t5,t6⟩:=su.take (dd:=d.getD 0) q1 q2 r3 n.heap.keep.size q5 (λb S=>by
  cases p with
  | none=>exact S.elim
  | some m' =>
   cases U with
   | none=>cases z
   | some m0 =>
    have e:m'.1=m0.1:=by simpa using z
    have S:b=m'.1:=S;rw[S,e];exact y.1.lt)
 simp only[D6,e1]at k;refine hK _ _ Z3 _ _ k ?_ ((D.put _ _ _ _ Z3 ao w' hA ⟨λb o h=>t4.M b o (q3.M b o h),λr hR I=>?_,q3.trans t4⟩ t6).site λs=>pT _ _ _ s)
 .rw[hd];exact n.put (by rw[t3]) (q3.trans t4) t1 t2 (by subst hN;exact h4) n.defers
 .obtain⟨y1,y2⟩:=q4.f r hR I;exact⟨t5 r I.lt y1,y2⟩
def tQ:Nat->List AV->List (Nat × AV)
 | _,[]=>[]
 | i,v::r=>(i,v)::tQ (i+1) r
theorem QW:∀ (args:List AV) (i t:Nat),look (tQ i args) t AV.undef=if t<i then .undef else(args[t - i]?).getD .undef
 | [],i,t=>by simp[tQ]
 | v::r,i,t=>by
  simp[tQ];split
  .grind
  .rename_i h;rw[QW r (i+1) t];by_cases b:t<i
   .grind
   .grind
def NY(rs:List (Nat × Option Nat))(v:AV)(b:List Site)(f:Exit)(s:St):Prop :=
 (f=.ret\/f=.normal)/\∃ d,aA s d/\∃ h,oF d rs=some h/\dD h=v/\qA d b b
def NZ(hp b:List Site)(h:St):HV->AV->Prop
 | .av v,u=>u=v
 | .fr f d,u=>b=hp/\((u=.nil/\d=[])\/∃ s g,(hp.map (·.1)).contains s=false/\u=.own s g 0 d.length/\h.obj s g=some ⟨f,d.map .p⟩)
 | .bx f e i,u=>b=hp/\∃ s g,(hp.map (·.1)).contains s=false/\u=.bM (.ptr s g 0 0::i.map .p)/\h.obj s g=some ⟨f,[e]⟩
def Du(rs:List (Nat × Option Nat))(hp:List Site)(f:HV)(b:List Site)(h:Exit)(s:St):Prop :=
 (h=.ret\/h=.normal)/\∃ d,aA s d/\∃ i,oF d rs=some i/\NZ hp b d f (dD i)/\qA d b b
theorem kU.fZ{f:FuncId}{vs:List AV}{hp iO:List Site}{z G:Option zaV}{res:HV}{n np:Nat}{b:GC}{rs:List (Nat × Option Nat)}(j:aP P f=some ⟨n,np,b.er,rs⟩)(hn:vs.length<=n)(bo:G.map (·.1)=z.map (·.1))
  (br:hp.all (λq=>decide (fU<=q.1)&&decide (q.1<999999))=true) (au:iO.map (·.1)=hp.map (·.1)) (hr:(vU (hp.map (·.1)) res&&dS (hp.map (·.1)) iO)=true)
  (h:∀ q:mL,MR P n b.er ⟨tQ 0 vs,hp⟩ (some (gH q z)) λex s B=>B=some (gH q G)/\Du rs hp res iO ex s):kU P f vs hp z res iO G:=by
 unfold aP at j;split at j
 .rename_i fn hf;split at j
  .rename_i al;split at j
   .rename_i c y;split at j
    .rename_i bd cs h1 h2;obtain⟨rfl,_,rfl,rfl⟩:=j;refine⟨⟨fn,hf,by rw[y];rfl,al⟩,λZ w vals hH W hv=>?_⟩;refine calls_of_wp hf y ?_;have hl:=hv.length;have bt:∀ s,(⟨tQ 0 vs,hp⟩:St).site s=(⟨[],hp⟩:St).site s:=λ_=>rfl;have h0:aN ⟨w,Z.M,λb=>lH Z ⟨[],hp⟩ b\/Au z b,fn.ntmps⟩ Z ⟨tQ 0 vs,hp⟩ w { tmps:=vals.toArray++Array.replicate (fn.ntmps - vals.toArray.size) Go.undef,defers:=[] }:=by
      refine⟨λt=>?_,rfl,by simp;omega,bG.hJ ⟨hH.bT,hH.inj,hH.mem,hH.sep,hH.own,hH.m0,hH.eM,hH.keep⟩ bt⟩;have aq:(⟨tQ 0 vs,hp⟩:St).get t=(vs[t]?).getD .undef:=by have:=QW vs 0 t;simpa[St.get]using this
      rw[aq];cases hx:vs[t]? with
      | none=>exact .undef _
      | some u =>
       obtain⟨x,g1,U⟩:=hv.get t u hx;have cc:=(List.getElem?_eq_some_iff.1 g1).1;have:(vals.toArray++Array.replicate (fn.ntmps - vals.toArray.size) Go.undef).getD t Go.undef=x:=by simp[Array.getElem?_append,cc];have:=(List.getElem?_eq_some_iff.1 g1).2;simpa using this
       rw[this];exact aQ.mono (sC bt Z) U
     let q:mL:=⟨λZ' st'=>cY Z ⟨tQ 0 vs,hp⟩ Z' st',λ_ _ _ _ h k=>k.trans h⟩
     have bb:qB z ⟨w,Z.M,λb=>lH Z ⟨[],hp⟩ b\/Au z b,fn.ntmps⟩ Z ⟨tQ 0 vs,hp⟩ w:=by
      cases z with
      | none=>trivial
      | some m=>exact⟨⟨W.1.m,λs g o a1=>W.1.o s g o a1,W.1.lt⟩,W.2⟩
     refine h q _ h1 _ _ w _ _ rfl h0 ⟨cY.refl _ _,bb⟩ (λex st' A' Z' w' a' ce cf ao=>?_);obtain⟨rfl,ca,s1,hw,us,cm,F,af⟩:=ce;obtain⟨Q,l,aw⟩:=hw.frame cf;have Y:cY Z ⟨tQ 0 vs,hp⟩ Q s1:=cY.trans ao.1 aw.Bl;have C:=qB.later aw ao.2;simp only[jO]at hr;have d:∀ s,(hp.map (·.1)).contains s=true->s1.site s=(⟨[],iO⟩:St).site s:=λs hs=>by rw[<- au]at hs;obtain⟨q,hq,rfl⟩:=cA.1 (E3.1 hs);exact IG af q hq
     have D:∀ s,(hp.map (·.1)).contains s=true->fU<=s/\s<999999:=λs hs=>by obtain⟨q,hq,rfl⟩:=cA.1 (E3.1 hs);have:=k8.1 br q hq;rw[jO,decide_eq_true_eq,decide_eq_true_eq]at this;exact this
     have e0:∀ s,(hp.map (·.1)).contains s=false->(⟨[],hp⟩:St).site s=[]:=λs h=>Gk h;have e1:∀ s,(hp.map (·.1)).contains s=false->(⟨[],iO⟩:St).site s=[]:=λs h=>Gk (by rw[au];exact h);have hz:cP Z ⟨[],hp⟩ Q ⟨[],iO⟩:=by
      refine⟨λb o y=>l.heap.m0 b o y,λs=>?_,λs g hg hd=>?_,λs g o S=>?_⟩<;>cases j:(hp.map (·.1)).contains s
      .rw[e0 s j];exact vI _
      .rw[<- d s j];exact Y.len s (D s j).1 (D s j).2
      .rw[e0 s j]at hg;exact absurd hg (Nat.not_lt_zero _)
      .rw[fB (d s j).symm];exact Y.dead s g (D s j).1 (D s j).2 hg hd
      .exact(IS (e0 s j) S).elim
      .rw[fB (d s j).symm];exact Y.live s g o (D s j).1 (D s j).2 S
     have ap:bG (oA Z hp z w) Q ⟨[],iO⟩ w'/\qB G (oA Z hp z w) Q ⟨[],iO⟩ w':=by
      have k0:∀ {s g o},(⟨[],iO⟩:St).obj s g=some o->(hp.map (·.1)).contains s=true:=λ{s g o} S=>by
       cases h:(hp.map (·.1)).contains s with
       | true=>rfl
       | false=>exact(IS (e1 s h) S).elim
      have z:∀ {s g o},(⟨[],iO⟩:St).obj s g=some o->s1.obj s g=some o:=λ{s g o} S=>by rw[fB (d s (k0 S))];exact S
      have hq:=l.heap
      refine⟨⟨λs g o S=>oC.gU (st:=s1) (st2:=⟨[],iO⟩) (Z2:=Q) (λs h=>(d s h).symm) (λ_ _ h=>h) (λ_ _ _=>⟨rfl,rfl⟩) (k0 S) (FW hr.2 S) (hq.bT s g o (z S)),λs g s' g' o o' b a1 a2=>hq.inj s g s' g' o o' b (z a1) (z a2),hq.mem,λs g o b a1=>hq.sep s g o b (z a1),
       λs g o b a1 b1=>hq.own s g o b (z a1) b1,hq.m0,hq.eM,hq.keep⟩,?_⟩
      cases G with
      | none=>trivial
      | some m=>exact⟨⟨C.1.m,λs g o a1=>C.1.o s g o (z a1),C.1.lt⟩,C.2⟩
     have ag:a'.defers=[]/\∃ u,(results fn a'.tmps).run P w'=.ok u w'/\∃ x Z',Ending.returned u=.returned x/\bG (oA Z hp z w) Z' ⟨[],iO⟩ w'/\su res Z' ⟨[],iO⟩ w w' x/\cP Z ⟨[],hp⟩ Z' ⟨[],iO⟩/\qB G (oA Z hp z w) Z' ⟨[],iO⟩ w':=by
      obtain⟨xs,g1,U⟩:=D7 l h2 cm;have I:=U.dD;have key:iO=hp->∀ {s g:Nat} {o:bI} {b:Nat},(iO.map (·.1)).contains s=false->s1.obj s g=some o->Q.B s g=some b->(∀ V U o2,(⟨[],iO⟩:St).obj V U=some o2->Q.B V U≠some b)/\w.heap.size<=b:=by
       rintro rfl s g o b J i y;have X:∀ V U o2,(⟨[],iO⟩:St).obj V U=some o2->Q.B V U≠some b:=λV U o2 a1 b1=>by
        have hk:(iO.map (·.1)).contains V=true:=by
         cases h:(iO.map (·.1)).contains V with
         | true=>rfl
         | false=>exact(IS (e0 V h) a1).elim
        obtain⟨rfl,rfl⟩:=l.heap.inj _ _ _ _ _ _ b i (by rw[fB (d V hk)];exact a1) y b1;rw[hk]at J;cases J
       refine⟨X,?_⟩;obtain(hX|hX)|hX:=l.heap.own s g _ b i y
       .exfalso;obtain⟨s3,I,o3,c1,c2⟩:=hX;have hk:(iO.map (·.1)).contains s3=true:=by
         cases h:(iO.map (·.1)).contains s3 with
         | true=>rfl
         | false=>exact(IS (e0 s3 h) c1).elim
        have c3:s1.obj s3 I=some o3:=by rw[fB (d s3 hk)];exact c1
        obtain d1|⟨o4,d1,d2,d3,d4,d5⟩:=Y.live s3 I o3 (D s3 hk).1 (D s3 hk).2 c1
        .rw[c3]at d1;cases d1
        .exact X s3 I o3 c1 (by rw[d4];exact c2)
       .exfalso;cases z with
        | none=>exact hX.elim
        | some m =>
         cases G with
         | none=>cases bo
         | some m' =>
          have e:m'.1=m.1:=by simpa using bo
          have hX:b=m.1:=hX;rw[hX,<- e]at y;exact C.1.o _ _ _ i y
       .exact hX
      have g4:su res Q ⟨[],iO⟩ w w' (if h:xs.toArray.size=1 then xs.toArray[0]else .tuple xs.toArray):=by
       generalize (if h:xs.toArray.size=1 then xs.toArray[0]else .tuple xs.toArray)=x at I;cases res with
       | av v =>
        have F:dD us=v:=F;rw[F]at I;exact aQ.gU (st:=s1) (st2:=⟨[],iO⟩) (Z2:=Q) (λs h=>(d s h).symm) (λ_ _ h=>h) (λ_ _ _=>⟨rfl,rfl⟩) I hr.1
       | bx sz e ct =>
        obtain⟨R,s,g,J,e1,i⟩:=F;rw[e1]at I;have hO:=l.heap.bT s g _ i;cases I with
        | bM _ vals cn =>
         cases cn with
         | cons _ x0 _ ys co cp =>
          cases co with
          | kP _ _ _ _ _ _ hd=>exact(uH i hd).elim
          | ptr _ _ _ _ o' b O y =>
           rw[i]at O;cases O;obtain⟨cur,T,vals,l1,l2,l3,l4,l5,l6⟩:=hO.bX b y;obtain⟨k1,k2⟩:=key R (by rw[R];exact J) i y;simp only[List.flatMap_cons,List.flatMap_nil,List.append_nil]at l2;refine⟨b,_,cur,T,vals,ys,by simp,cp.pq,k2,l.heap.sep s g _ b i y,l1,?_,l3,l4,⟨by simpa using l5,l6⟩,λq hq=>?_,k1⟩
           .simp only[vU,jO]at hr;exact aG.gU (st:=s1) (st2:=⟨[],iO⟩) (Z2:=Q) (λs h=>(d s h).symm) (λ_ _ h=>h) (λ_ _ _=>⟨rfl,rfl⟩) l2 (MT hr.1.2)
           .exact hO.one q (by simpa using hq)
       | fr sz es =>
        obtain⟨R,F⟩:=F;obtain⟨e1,rfl⟩|⟨s,g,J,e1,i⟩:=F
        .rw[e1]at I;cases I;exact⟨.inl ⟨rfl,rfl⟩,λb n c h=>by cases h⟩
        .rw[e1]at I;have hO:=l.heap.bT s g _ i;generalize hL:es.length=L at I;cases I with
         | d' _ _ o' O y =>
          have h0:=hO.x5 y;have bu:es=[]:=by simpa using h0
          subst bu;exact⟨.inl ⟨rfl,rfl⟩,λb n c h=>by cases h⟩
         | eO _ _ _ _ _ _ _ hd=>exact(uH i hd).elim
         | own _ _ _ _ o' b ad c O y k1 k2 k3 k4 =>
          rw[i]at O;cases O;subst hL;obtain⟨rfl,rfl⟩:=k1 rfl;obtain⟨cur,T,vals,l1,l2,l3,l4,l5,l6⟩:=hO.bX b y;obtain⟨X,bk⟩:=key R (by rw[R];exact J) i y;refine⟨.inr ⟨b,_,cur,T,vals,rfl,bk,l.heap.sep s g _ b i y,l1,?_,l3,l4,by simpa using l5,l6,λq hq=>?_⟩,λb' n c hx=>by cases hx;exact X⟩
          .rw[qU]at l2;exact l2.pq
          .have:=hO.one (.p q) (by rw[qU];exact cA.2 ⟨q,hq,rfl⟩);exact this
      refine⟨l.defers,_,?_,_,Q,rfl,ap.1,g4,hz,ap.2⟩;unfold results;rw[EY];simp only[mW,map_eq_pure_bind,oJ];exact congrArg (λr=>(Result.andThen r λa w'=>Result.ok a.toArray w').andThen λ(a:Array Value) w'=>Result.ok (if h:a.size=1 then a[0]else Value.tuple a) w') g1
     obtain rfl|rfl:=ca
     .exact ag
     .exact ag
    .cases j
   .cases j
  .cases j
 .cases j
def UX.fZ{f:FuncId}{vs:List AV}{hp iO:List Site}{n np:Nat}{b:GC}{rs:List (Nat × Option Nat)}(j:aP P f=some ⟨n,np,b.er,rs⟩)(hn:vs.length<=n)
  (d:hp.all (λq=>decide (fU<=q.1)&&decide (q.1<999999))=true) (i:iO.map (·.1)=hp.map (·.1)) (k:(pR (hp.map (·.1)) v&&dS (hp.map (·.1)) iO)=true)
  (h:∀ A:FA,A.nb=true->MR P n b.er ⟨tQ 0 vs,hp⟩ (some A) λex s B=>B=some A/\NY rs v iO ex s):UX P f vs hp v iO :=
 kU.fZ j hn rfl d i k λq=>h (gH q none) rfl
end
abbrev Sg:=Nat->Nat->Nat × Nat
mutual
def sub(σ : Sg):AV->AV
 | .own s g b h=>.own (σ s g).1 (σ s g).2 b h
 | .ptr s g j b=>.ptr (σ s g).1 (σ s g).2 j b
 | .agg d=>.agg (gC σ d)
 | .fn f d=>.fn f (gC σ d)
 | .bM d=>.bM (gC σ d)
 | .p v=>.p v
 | .nil=>.nil
 | .cp v i b=>.cp v i b
 | .skip=>.skip
 | .undef=>.undef
def gC(σ : Sg):List AV->List AV
 | []=>[]
 | v::r=>sub σ v::gC σ r
end
def iM(σ : Sg)(o:bI):bI:=⟨o.sz,gC σ o.es⟩
structure rJ (st st':St) (σ : Sg):Prop where
 live:∀ s g o,st.obj s g=some o -> σ s g=(aO,0)\/st'.obj (σ s g).1 (σ s g).2=some (iM σ o)
 rH:∀ s g,g<(st.site s).length->st.obj s g=none->(σ s g).2<(st'.site (σ s g).1).length/\st'.obj (σ s g).1 (σ s g).2=none
 inj:∀ s g s' g' o o',st.obj s g=some o->st.obj s' g'=some o' -> σ s g = σ s' g' -> σ s g≠(aO,0)->s=s'/\g=g'
 all:∀ s' g' o',st'.obj s' g'=some o'->∃ s g o,st.obj s g=some o /\ σ s g=(s',g')/\o'=iM σ o
 dead:0<(st'.site aO).length/\st'.obj aO 0=none
section
variable {P:Program} {K:Ctx} {Z Z':Cz} {st st':St} {w:World} {a:Act} {σ : Sg}
theorem yB:∀ (l:List AV),gC σ l=l.map (sub σ)
 | []=>rfl
 | v::r=>by simp[gC,yB r]
def ZY(v:AV):(sub σ v).sz=v.sz:=by cases v<;>simp[sub]<;>simp[yB]
def SV(v:AV):(sub σ v).one=v.one:=by cases v<;>simp[sub]<;>simp
theorem Yg(v:AV):(sub σ v).cells=v.cells.map (sub σ):=by
 cases v with
 | agg b=>simp[sub,yB]
 | p v=>?_
 | _=>rfl
 cases v<;>first|rfl|skip
 simp only[AV.cells,yG];apply uK;intro x _;rfl
theorem QO(es:List AV):(gC σ es).flatMap AV.cells=(es.flatMap AV.cells).map (sub σ):=by
 induction es with
 | nil=>rfl
 | cons e es b=>simp only[gC,jG,sS,b,Yg]
open Classical in
noncomputable def wU(st:St)(σ : Sg)(d b:Nat):Nat × Nat:=if h:∃ i:Nat × Nat,(∃ o,st.obj i.1 i.2=some o) /\ σ i.1 i.2=(d,b)then h.choose else(0,0)
def D3(h:rJ st st' σ){s g:Nat}{o:bI}(f:st.obj s g=some o)(hn : σ s g≠(aO,0)):wU st σ (σ s g).1 (σ s g).2=(s,g):=by
 have b:∃ i:Nat × Nat,(∃ o,st.obj i.1 i.2=some o) /\ σ i.1 i.2=((σ s g).1,(σ s g).2):=⟨(s,g),⟨o,f⟩,rfl⟩;unfold wU;rw[dif_pos b];obtain⟨⟨p,j⟩,k⟩:=b.choose_spec;have d : σ b.choose.1 b.choose.2 = σ s g:=k;obtain⟨l,n⟩:=h.inj _ _ _ _ _ _ j f d (by rw[d];exact hn)
 grind
noncomputable def Cz.sub(Z:Cz)(st:St)(σ : Sg):Cz where
 M:=Z.M
 B s g:=Z.B (wU st σ s g).1 (wU st σ s g).2
 cap s g:=Z.cap (wU st σ s g).1 (wU st σ s g).2
mutual
theorem aQ.sub(h:rJ st st' σ):∀ {v:AV} {x:Value},aQ Z st v x->aQ (Z.sub st σ) st' (Ab.sub σ v) x
 | _,_,.p v x hp=>.p v x hp
 | _,_,.nil=>.nil
 | _,_,.d' s g o k n=>by
  simp only[Ab.sub];by_cases hd : σ s g=(aO,0)
  .rw[hd];exact .eO _ _ _ _ _ _ h.dead.1 h.dead.2
  .exact .d' _ _ _ ((h.live s g o k).resolve_left hd) (by simp only[Cz.sub,D3 h k hd,n])
 | _,_,.own s g off len o b ad c k n j l h3 y=>by
  simp only[Ab.sub];by_cases hd : σ s g=(aO,0)
  .rw[hd];exact .eO _ _ _ _ _ _ h.dead.1 h.dead.2
  .exact .own _ _ _ _ _ b ad c ((h.live s g o k).resolve_left hd) (by simp only[Cz.sub,D3 h k hd,n]) (by simp only[Cz.sub,D3 h k hd];exact j) l (by simpa[iM,yB]using h3) y
 | _,_,.eO s g off len ad c u i=>by
  simp only[Ab.sub];exact .eO _ _ _ _ _ _ (h.rH s g u i).1 (h.rH s g u i).2
 | _,_,.ptr s g ix off o b k n=>by
  simp only[Ab.sub];by_cases hd : σ s g=(aO,0)
  .rw[hd];exact .kP _ _ _ _ _ h.dead.1 h.dead.2
  .exact .ptr _ _ ix off (iM σ o) b ((h.live s g o k).resolve_left hd) (by simp only[Cz.sub,D3 h k hd,n])
 | _,_,.kP s g ix off ad u i=>by
  simp only[Ab.sub];exact .kP _ _ _ _ _ (h.rH s g u i).1 (h.rH s g u i).2
 | _,_,.cp v vM off b o cur T fr vals C j l h3 y D=>.cp v vM off b o cur T fr vals C j l h3 y D
 | _,_,.agg cs vals j l=>by
  simp only[Ab.sub];exact .agg _ vals (λc z=>by rw[yB]at z;obtain⟨d,hd,rfl⟩:=cA.1 z;rw[SV];exact j d hd) (aG.sub h l)
 | _,_,.fn f cs vals j=>by simp only[Ab.sub];exact .fn f _ vals (aG.sub h j)
 | _,_,.bM vs vals j=>by simp only[Ab.sub];exact .bM _ vals (aG.sub h j)
 | _,_,.skip=>.skip
 | _,_,.undef x=>.undef x
theorem aG.sub(h:rJ st st' σ):∀ {v:List AV} {x:List Value},aG Z st v x->aG (Z.sub st σ) st' (gC σ v) x
 | _,_,.nil=>.nil
 | _,_,.cons v x vs xs b hs=>.cons _ _ _ _ (aQ.sub h b) (aG.sub h hs)
end
def bG.sub(h:bG K Z st w)(x:rJ st st' σ):bG K (Z.sub st σ) st' w:=by
 have d:∀ {s' g':Nat} {o':bI},st'.obj s' g'=some o'->∃ s g o,st.obj s g=some o/\o'=iM σ o /\ σ s g=(s',g')/\(Z.sub st σ).B s' g'=Z.B s g/\(Z.sub st σ).cap s' g'=Z.cap s g:=by
  intro s' g' o' i;obtain⟨s,g,o,j,G,rfl⟩:=x.all s' g' o' i;have hd : σ s g≠(aO,0):=λe=>by rw[G]at e;cases e;rw[x.dead.2]at i;cases i
  have:=D3 x j hd;rw[G]at this;exact⟨s,g,o,j,rfl,G,by simp only[Cz.sub,this],by simp only[Cz.sub,this]⟩
 refine⟨λs' g' o' i=>?_,λs g s' g' o o' b i O f p=>?_,h.mem,λs g o b i f=>?_,λs g o b i f=>?_,h.m0,h.eM,h.keep⟩
 .obtain⟨s,g,u,j,rfl,_,l,D⟩:=d i;obtain⟨k1,k2,k3,k4,k5⟩:=h.bT s g u j;refine⟨k1,λe R=>?_,λc Q=>?_,λf=>?_,λb f=>?_⟩
  .simp only[iM,yB,cA]at R;obtain⟨U,J,rfl⟩:=R;rw[ZY];exact k2 U J
  .simp only[iM,QO,cA]at Q;obtain⟨S,I,rfl⟩:=Q;rw[SV];exact k3 S I
  .rw[l]at f;simp[iM,k4 f,gC]
  .rw[l]at f;obtain⟨cur,T,vals,y,z,V,W,X,Y⟩:=k5 b f;refine⟨cur,T,vals,y,?_,V,by rw[D];exact W,by rw[D];simpa[iM,yB]using X,by rw[D];exact Y⟩;show aG _ _ ((gC σ u.es).flatMap AV.cells) vals;rw[QO,<- yB];exact aG.sub x z
 .obtain⟨t,k,u,j,_,q1,l,_⟩:=d i;obtain⟨t',k',ad,F,_,n,C,_⟩:=d O;rw[l]at f;rw[C]at p;obtain⟨y,z⟩:=h.inj _ _ _ _ _ _ b j F f p;subst y;subst z;rw[q1]at n;exact⟨congrArg Prod.fst n,congrArg Prod.snd n⟩
 .obtain⟨t,k,u,j,_,_,l,_⟩:=d i;rw[l]at f;exact h.sep _ _ _ b j f
 .obtain⟨t,k,u,j,_,_,l,_⟩:=d i;rw[l]at f;exact h.own _ _ _ b j f
def Ni(st:St)(σ : Sg):Prop:=∀ s g,fU<=s->s<999999->g<(st.site s).length -> σ s g=(s,g)
theorem aA.sub(h:rJ st st' σ)(hp:Ni st σ){keep:List Nat}(n:st'.sl=keep.map λt=>(t,Ab.sub σ (st.get t))):aA st st':=by
 intro K Z w a hs;have l:∀ {s g:Nat},s<999999->(s,g)≠(aO,0):=λh e=>by
  simp_all
 have p:∀ s g,fU<=s->s<999999->g<(st.site s).length->g<(st'.site s).length:=λs g a b i=>by
  have e:=hp s g a b i;cases d:st.obj s g with
  | none=>have:=(h.rH s g i d).1;rw[e]at this;exact this
  | some o =>
   obtain f|f:=h.live s g o d
   .grind
   .rw[e]at f;exact nQ f
 refine⟨Z.sub st σ,⟨λt=>?_,hs.defers,hs.size,hs.heap.sub h⟩,⟨λs a b=>?_,λs g a b i d=>?_,λs g o a b d=>?_⟩⟩;rotate_left
 .grind
 .have:=(h.rH s g i d).2;rw[hp s g a b i]at this;exact this
 .have e:=hp s g a b (nQ d);obtain f|f:=h.live s g o d
  .grind
  .have j:=D3 h d (by rw[e];exact l b);rw[e]at f j;exact .inr ⟨_,f,rfl,by simp[iM,yB],by simp[Cz.sub,j],by simp[Cz.sub,j]⟩
 have:st'.get t=look (keep.map λt=>(t,Ab.sub σ (st.get t))) t .undef:=by rw[<- n];rfl
 rw[this];obtain k|k:=L9 (λt=>Ab.sub σ (st.get t)) t keep
 .rw[k];exact(hs.aY t).sub h
 .rw[k];exact .undef _
def pQ(st:St)(s:Nat):List (Nat × Nat)->Option (Nat × Nat)
 | []=>none
 | (x,k)::r=>if x=s then some (0,k)else(pQ st s r).map λq=>((st.site x).length - k+q.1,q.2)
def uA(st:St)(s:Nat):List (Nat × List (Nat × Nat))->Option (Nat × Nat × Nat)
 | []=>none
 | (b,l)::r=>match pQ st s l with
  | some q=>some (b,q)
  | none=>uA st s r
def nS(st:St)(b:List (Nat × List (Nat × Nat))):Sg:=λs g=>match uA st s b with
 | some (d,o,k)=>if g<k then(aO,0)else(d,o+(g - k))
 | none=>(aO,0)
def mJ(st:St)(σ : Sg):List (Nat × Nat)->List (Option bI)
 | []=>[]
 | (x,k)::r=>((st.site x).drop k).map (Option.map (iM σ))++mJ st σ r
def sL(st:St)(σ : Sg):List (Nat × List (Nat × Nat))->List Site
 | []=>[(aO,[none])]
 | (b,l)::r=>(b,mJ st σ l)::sL st σ r
def St.lV(st:St)(keep:List Nat)(lV:List (Nat × List (Nat × Nat))):St:=⟨keep.map λt=>(t,sub (nS st lV) (st.get t)),sL st (nS st lV) lV⟩
def CU(s:Nat):List (Nat × Nat)->Bool
 | (x,k)::_=>x == s&&k == 0
 | []=>false
def EP(hp:List Site)(b:List (Nat × List (Nat × Nat))):Bool:=hp.all λq=>decide (q.1<fU)||decide (999999<=q.1)||b.any λp=>p.1 == q.1&&CU q.1 p.2
def AE(hp:List Site)(b:List (Nat × List (Nat × Nat))):Bool:=EP hp b&&xK (b.flatMap λq=>q.2.map (·.1))&&xK (aO::b.map (·.1))
theorem IB{s:Nat}:∀ {l:List (Nat × Nat)} {q:Nat × Nat},pQ st s l=some q->s∈l.map (·.1)
 | (x,k)::r,q,h=>by
  simp[pQ]at h;split at h
  .grind
  .obtain⟨d,b,_⟩:=cO h;exact tX _ (IB b)
theorem M5{s g:Nat}:∀ {l:List (Nat × Nat)} {o k:Nat},pQ st s l=some (o,k)->k<=g->g<(st.site s).length->(mJ st σ l)[o+(g - k)]?=some (((st.site s)[g]?.getD none).map (iM σ))
 | (x,d)::r,o,k,h,p,n=>by
  simp only[pQ]at h;simp only[mJ];split at h
  .grind
  .obtain⟨q,i,j⟩:=cO h;obtain⟨f,b⟩:=q;obtain⟨rfl,rfl⟩:=j;rw[qG (by simp;omega),ra,lp,show(st.site x).length - d+f+(g - b) - ((st.site x).length - d)=f+(g - b) by omega];exact M5 i p n
theorem Tb{b:Nat}{o':bI}:∀ {l:List (Nat × Nat)},(l.map (·.1)).Nodup->(mJ st σ l)[b]?=some (some o')->∃ s g o off k,pQ st s l=some (off,k)/\k<=g/\off+(g - k)=b/\st.obj s g=some o/\o'=iM σ o
 | [],_,h=>by simp[mJ]at h
 | (x,k)::r,i,h=>by
  simp only[mJ]at h;by_cases d:b<(st.site x).length - k
  .rw[List.getElem?_append_left (by simpa using d),List.getElem?_map,List.getElem?_drop,List.getElem?_eq_getElem (show k+b<(st.site x).length by omega)]at h;simp only[Option.map_some,Option.some.injEq]at h;obtain⟨o,f,rfl⟩:=cO h;exact⟨x,k+b,o,0,k,by simp[pQ],by omega,by omega,by unfold St.obj;rw[List.getElem?_eq_getElem (show k+b<(st.site x).length by omega),f];rfl,rfl⟩
  .rw[List.getElem?_append_right (by simpa using Nat.not_lt.1 d),List.length_map,List.length_drop]at h;rw[List.map_cons,List.nodup_cons]at i;obtain⟨s,g,o,off,y,f,n,z,p,u⟩:=Tb i.2 h;have j:x≠s:=by rintro rfl;exact i.1 (IB f)
   exact⟨s,g,o,(st.site x).length - k+off,y,by simp only[pQ,bD j,f];rfl,n,by omega,p,u⟩
theorem Sn{s g z f:Nat}:∀ {l:List (Nat × Nat)} {o y k i:Nat},pQ st s l=some (o,k)->pQ st z l=some (y,i)->k<=g->i<=f->g<(st.site s).length->f<(st.site z).length->o+(g - k)=y+(f - i)->s=z/\g=f
 | (x,O)::r,o,y,k,i,h,b,G,u,F,p,e=>by
  simp only[pQ]at h b;split at h
  .rename_i D;subst D;cases h;split at b
   .grind
   .obtain⟨⟨J,I⟩,C,n⟩:=cO b
    grind
  .obtain⟨⟨R,Q⟩,C,n⟩:=cO h;simp only[c5]at n;obtain⟨rfl,rfl⟩:=n;split at b
   .grind
   .obtain⟨⟨J,I⟩,j,d⟩:=cO b;simp only[c5]at d;obtain⟨rfl,rfl⟩:=d;exact Sn C j G u F p (by omega)
theorem Ga{s d:Nat}{q:Nat × Nat}:∀ {b:List (Nat × List (Nat × Nat))},uA st s b=some (d,q)->∃ l,(d,l)∈b/\pQ st s l=some q
 | (k,l)::r,h=>by
  simp[uA]at h;split at h
  .grind
  .obtain⟨j,f,i⟩:=Ga h
   grind
theorem La{s f:Nat}{q:Nat × Nat}{l:List (Nat × Nat)}:∀ {b:List (Nat × List (Nat × Nat))},(b.flatMap λq=>q.2.map (·.1)).Nodup->(f,l)∈b->pQ st s l=some q->uA st s b=some (f,q)
 | (n,j)::r,d,hm,h=>by
  simp[uA];rw[jG,GS]at d;obtain hm|hm:=cI.1 hm
  .grind
  .cases i:pQ st s j with
   | none=>exact La d.2.1 hm h
   | some k=>exact absurd rfl (d.2.2 s (IB i) s (kC.2 ⟨_,hm,IB h⟩))
theorem FX{f:Nat}{l:List (Nat × Nat)}:∀ {b:List (Nat × List (Nat × Nat))},(b.map (·.1)).Nodup->(f,l)∈b->look (sL st σ b) f []=mJ st σ l
 | (i,h)::r,d,hm=>by
  rw[jH,uL]at d;simp[sL];obtain hm|hm:=cI.1 hm
  .grind
  .rw[bD]
   .exact FX d.2 hm
   .grind
theorem KS{d:Nat}:∀ {b:List (Nat × List (Nat × Nat))},d∉b.map (·.1)->look (sL st σ b) d []=if aO=d then[none]else[]
 | [],_=>rfl
 | (i,f)::r,h=>by simp only[jH,cI,not_or]at h;simp[sL];rw[bD (wJ h.1)];exact KS h.2
theorem Sm{s g:Nat}:(st.site s)[g]?.getD none=st.obj s g:=rfl
theorem XF{α β : Type}{l:List (α × β)}(hn:(l.map (·.1)).Nodup){x : α}{y d : β}(h:(x,y)∈l)(b:(x,d)∈l):y=d:=by
 induction l with
 | nil=>cases h
 | cons q r f =>
  rw[jH]at hn;obtain h|h:=cI.1 h<;>obtain b|b:=cI.1 b
  .grind
  .grind
  .grind
  .grind
theorem z49{keep:List Nat}{f:List (Nat × List (Nat × Nat))}(h:AE st.hp f=true):rJ st (st.lV keep f) (nS st f)/\Ni st (nS st f):=by
 simp only[AE,jO]at h;obtain⟨⟨h1,h2⟩,X⟩:=h;have n2:=I5 h2;have O:=I5 X;rw[uL]at O;have hD:=KS (st:=st) (σ := nS st f) O.1
 have j:0<((st.lV keep f).site aO).length/\(st.lV keep f).obj aO 0=none :=
  ⟨by show 0<(look (sL st (nS st f) f) aO []).length;rw[hD];simp,by show((look (sL st (nS st f) f) aO [])[0]?).getD none=none;rw[hD];rfl⟩
 have U:Ni st (nS st f):=λs g a b Q=>by
  obtain X|⟨q,hq,rfl,X⟩:=BR (d:=([]:List (Option bI))) (l:=st.hp) (s:=s)
  .simp_all
  .have:=k8.1 h1 q hq;simp only[Dc,decide_eq_true_eq,List.any_eq_true,jO,beq_iff_eq]at this;obtain(Y|Y)|⟨⟨p1,p2⟩,Y,h5,h6⟩:=this
   .omega
   .omega
   .simp only at h5;subst h5;have D:pQ st q.1 p2=some (0,0):=by
     cases p2 with
     | nil=>cases h6
     | cons y r =>
      obtain⟨x,k⟩:=y;simp only[CU,jO,beq_iff_eq]at h6;obtain⟨rfl,rfl⟩:=h6;simp only[pQ,cH]
    unfold nS;rw[La n2 Y D];simp
 refine⟨⟨λs g o D=>?_,λs g Q D=>?_,λs g z S o o' D J p u=>?_,λz S o' J=>?_,j⟩,U⟩
 .have Q:=nQ D;unfold nS;cases F:uA st s f with
  | none=>exact .inl rfl
  | some q =>
   obtain⟨z,n,k⟩:=q;by_cases C:g<k
   .left;simp only[C,cH]
   obtain⟨l,R,W⟩:=Ga F;right;simp only[C,fQ];show((look (sL st (nS st f) f) z [])[n+(g - k)]?).getD none=_;rw[FX O.2 R,M5 W (by omega) Q,Sm,D];rfl
 .unfold nS;cases F:uA st s f with
  | none=>exact j
  | some q =>
   obtain⟨z,n,k⟩:=q;by_cases C:g<k
   .simp only[C,cH];exact j
   simp only[C,fQ];obtain⟨l,R,W⟩:=Ga F;have hc:=M5 (σ := nS st f) W (show k<=g by omega) Q;refine⟨?_,?_⟩
   .show n+(g - k)<(look (sL st (nS st f) f) z []).length;rw[FX O.2 R];exact(iU.1 hc).1
   .show((look (sL st (nS st f) f) z [])[n+(g - k)]?).getD none=none;rw[FX O.2 R,hc,Sm,D];rfl
 .have Q:=nQ D;have ad:=nQ J;unfold nS at p u;cases F:uA st s f with
  | none=>rw[F]at u;exact absurd rfl u
  | some q =>
   obtain⟨s1,n,k⟩:=q;rw[F]at p u;by_cases C:g<k
   .simp only[C,cH]at u;exact absurd rfl u
   simp only[C,fQ]at p u;obtain⟨l,R,W⟩:=Ga F;cases G:uA st z f with
   | none=>rw[G]at p;exact absurd p u
   | some q' =>
    obtain⟨s2,al,k'⟩:=q';rw[G]at p;by_cases V:S<k'
    .simp only[V,cH]at p;exact absurd p u
    simp only[V,fQ]at p;obtain⟨l',af,ag⟩:=Ga G;simp only[c5]at p;obtain⟨rfl,e⟩:=p;obtain rfl:=XF O.2 R af;exact Sn W ag (by omega) (by omega) Q ad e
 .have i:((look (sL st (nS st f) f) z [])[S]?).getD none=some o':=J;by_cases hm:z∈f.map (·.1)
  .obtain⟨⟨s1,l⟩,I,rfl⟩:=cA.1 hm;rw[FX O.2 I]at i;cases hx:(mJ st (nS st f) l)[S]? with
   | none=>rw[hx]at i;cases i
   | some y =>
    rw[hx]at i;simp only[xW]at i;subst i;have nl:(l.map (·.1)).Nodup:=by
     have:List.Sublist (l.map (·.1)) (f.flatMap λq=>q.2.map (·.1)):=by obtain⟨a,b,e⟩:=NC I;rw[e,Ag,jG];exact(List.sublist_append_left (l.map (·.1)) _).trans (List.sublist_append_right _ _)
     exact this.nodup n2
    obtain⟨s,g,o,n,k,k1,k2,k3,k4,k5⟩:=Tb nl hx;refine⟨s,g,o,k4,?_,k5⟩;unfold nS;rw[La n2 I k1];simp only[show ¬ g<k by omega,fQ,k3]
  .rw[KS hm]at i;exfalso;split at i
   .cases S<;>simp at i
   .simp at i
def aA.lV(keep:List Nat)(lV:List (Nat × List (Nat × Nat)))(h:AE st.hp lV=true):aA st (st.lV keep lV):=aA.sub (z49 h).1 (z49 (keep:=keep) h).2 rfl
end
end Go.Ab
namespace Go.Ab
section
variable {P:Program} {K:Ctx} {Z Z':Cz} {st st':St} {w w':World} {a:Act}
theorem aA.xA{s g n:Nat}{o:bI}{ps:List PV}(I:st.obj s g=some o)(hp:o.es.mapM (bH st n)=some ps)(hd:(s,g)∉o.es.flatMap (aS st n)):aA st ((aI st (o.es.flatMap (aS st n))).setObj s g ⟨o.sz,ps.map .p⟩):=by
 intro K Z w a hs;generalize F:o.es.flatMap (aS st n)=ids at hd;have U:∀ b o,Z.M b=some o->Mx Z st w ids b=some o:=λb o d=>mM d;have hz:cP Z st { Z with M:=Mx Z st w ids } (aI st ids):=(cP.aI ids st).trans (cP.j3 U);have hh:bG K { Z with M:=Mx Z st w ids } (aI st ids) w:=by
  refine(bG.aI ids hs.heap).grow (Keep.refl w _) _ U (λb o d=>?_) (λb o d=>?_) (λs g o b I d=>?_)
  .obtain h|⟨_,h,_⟩:=rM d
   .exact hs.heap.mem b o h
   .exact h
  .obtain h|⟨_,_,s,g,S,_,k,z⟩:=rM d
   .exact .inl h
   .exact .inr (hs.heap.own s g S b k z)
  .obtain⟨G,Q⟩:=EG ids st I;cases hm:Mx Z st w ids b with
   | none=>rfl
   | some y =>
    exfalso;obtain h|⟨_,_,s',g',S,J,k,z⟩:=rM hm
    .rw[hs.heap.sep s g o b G d]at h;cases h
    .obtain⟨rfl,rfl⟩:=hs.heap.inj s g s' g' o S b G k d z;exact Q J
 have j:=RM ids I hd;have C:=hs.heap.bT s g o I;have f:=CT hp;have D:∀ l:List PV,(l.map AV.p).flatMap AV.cells=(l.flatMap PV.cells).map .p:=λl=>by
  induction l with
  | nil=>rfl
  | cons q l ih=>rw[jH,jG,ih,jG,sS];cases q<;>rfl
 have key:(∀ b,Z.B s g=some b->∃ (cur:Array Value) (T:TypeId) (vals:List Value),w.heap[b]?=some (.cells cur T (0,0))/\PReps (Mx Z st w ids) (ps.flatMap PV.cells) vals /\
   (∀ (i:Nat) (v:Value),vals[i]?=some v->cur[i]?=some v)/\cur.size=Z.cap s g*o.sz/\o.es.length<=Z.cap s g/\Z.cap s g<=maxLen)/\(∀ p∈ps,p.sz=o.sz)/\∀ c∈ps.flatMap PV.cells,c.one=true:=by
  cases d:Z.B s g with
  | none =>
   have h0:=C.x5 d;rw[h0]at hp;have:=EH hp;subst this;exact⟨λb d=>(by cases d),by simp,by simp⟩
  | some b =>
   obtain⟨cur,T,vals,k1,k2,k3,k4,k5,k6⟩:=C.bX b d;obtain⟨r1,r2,r3⟩:=Gi (w:=w) (n:=n) (ids:=ids) C.pos (BN hs.heap ids n) k2 hp C.iI C.one (λi hi=>by rw[<- F];exact hi);exact⟨λb' O=>(by cases O;exact⟨cur,T,vals,k1,r1,k3,k4,k5,k6⟩),r2,r3⟩
 obtain⟨q1,q2,q3⟩:=key;have R:=hh.yP j (es:=ps.map .p) (by rw[ra,f]) (λx hx=>?_) (λc V=>?_) (λb d=>?_)
 .refine⟨{ Z with M:=Mx Z st w ids },⟨λu=>?_,hs.defers,hs.size,R⟩,.dW (hz.trans (cP.setObj _ _ s g o ⟨o.sz,ps.map .p⟩ j rfl (by simp[f])))⟩;rw[show((aI st ids).setObj s g ⟨o.sz,ps.map .p⟩).get u=st.get u from AB (s:=(aI st ids).setObj s g ⟨o.sz,ps.map .p⟩) (t:=st) (A9 ids st) u];exact aQ.mono (hz.trans (cP.setObj _ _ s g o ⟨o.sz,ps.map .p⟩ j rfl (by simp[f]))) (hs.aY u)
 .obtain⟨p,iO,rfl⟩:=cA.1 hx;exact q2 p iO
 .rw[D]at V;obtain⟨p,iO,rfl⟩:=cA.1 V;exact q3 p iO
 .obtain⟨cur,T,vals,J,k,z,W,X,Y⟩:=q1 b d;refine⟨cur,T,vals,J,?_,z,W,X,Y⟩;rw[D];exact aG.lZ k
def aA.yX{s g n:Nat}{o:bI}(ps:List PV)(ids:List (Nat × Nat))(b:st.obj s g=some o)(hp:o.es.mapM (bH st n)=some ps)(hi:o.es.flatMap (aS st n)=ids)(hd:(s,g)∉ids):aA st ((aI st ids).setObj s g ⟨o.sz,ps.map .p⟩):=by subst hi;exact aA.xA b hp hd
theorem z72(n:Nat)(st:St)(s g off b:Nat):aS st (n+1) (.own s g off b)=(s,g)::(match st.obj s g with|some o=>o.es.flatMap (aS st n)|none=>[]):=rfl
end
mutual
def xJ:AV->Bool
 | .p u=>u.cN
 | .cp u _ _=>u.cN
 | .agg b=>rL b
 | .fn _ b=>rL b
 | .bM b=>rL b
 | _=>true
def rL:List AV->Bool
 | []=>true
 | v::r=>xJ v&&rL r
end
def BI(st:St):Bool:=st.sl.all (λq=>xJ q.2)&&st.hp.all λq=>q.2.all λo=>match o with|some o=>rL o.es|none=>true
theorem IQ:∀ {l:List AV},rL l=true ↔ ∀ v∈l,xJ v=true
 | []=>by simp[rL]
 | v::l=>by simp[rL,IQ (l:=l)]
def yY(q:mL)(m:zaV):FA:=⟨0,λ_ _=>True,λ_ _ _ _ h=>h,false,true,λK Z st _=>q.p Z st/\K.M0 m.1=none/\(K.X0 m.1\/K.w0.heap.size<=m.1)/\∃ d b,Z.M m.1=some (.map d b)/\EN Z.M m.2.1 m.2.2 d b,by
 rintro K Z st w Z' st' w' f ⟨i,j,k,d,b,l,n,o,u⟩;exact⟨q.m _ _ _ _ f.Bl i,j,k,d,b,f.M _ _ l,n.mono f.M,o.mono f.M,u⟩⟩
def G4:mL:=⟨λ_ _=>True,λ_ _ _ _ _ h=>h⟩
section
variable {P:Program} {K:Ctx} {Z Z':Cz} {st st' st1:St} {w w':World} {a:Act} {N:Nat} {A B:Option FA} {Post:Exit->St->Option FA->Prop} {cC:St->Option FA->Prop} {ac:AC} {q:mL} {m:zaV}
theorem MR.holds(h:∀ K Z st w,nN A K Z st w->nN B K Z st w)(k:MR P N ac st B Post):MR P N ac st A Post :=
 λcode i K Z w a Q d hs b f=>k code i K Z w a Q d hs (h _ _ _ _ b) f
def Vf{r:Nat}{ks b:List PV}:∀ K Z st w,nN (some (sN r ks b)) K Z st w->nN (some (gH G4 (some (r,ks,b)))) K Z st w :=
 λ_ _ _ _ h=>⟨trivial,h⟩
theorem MR.UU(k:MR P N ac st (some (yY q m)) Post):MR P N ac st (some (gH q (some m))) Post:=by
 intro code D K Z w a Q y hs x z;obtain⟨hq,l,C,es,clock,F,G,I,J⟩:=x
 let f:Nat->Option Obj:=λb=>if b=m.1 then w.heap[m.1]? else Z.M b
 have d:∀ b o,Z.M b=some o->f b=some o:=λb o j=>by
  simp[f];rw[bD];· exact j
  .rintro rfl;rw[l.m]at j;cases j
 have n:bG K { Z with M:=f } st w:=by
  refine hs.heap.grow (Keep.refl _ _) f d (λb o i=>?_) (λb o i=>?_) (λs g o b j i=>?_)
  .simp[f]at i;split at i
   .grind
   .exact hs.heap.mem b o i
  .grind
  .simp[f];rw[bD];· exact hs.heap.sep s g o b j i
   .rintro rfl;exact l.o s g o j i
 have hz:cP Z st { Z with M:=f } st:=.j3 d;have p:K.M0 m.1=none:=by
  cases h:K.M0 m.1 with
  | none=>rfl
  | some o=>have:=hs.heap.m0 _ _ h;rw[l.m]at this;cases this
 exact k code D K { Z with M:=f } w a Q y ⟨λu=>aQ.mono hz (hs.aY u),hs.defers,hs.size,n⟩ ⟨q.m _ _ _ _ (.dW hz) hq,p,C,es,clock,by simp[f];exact F,G.mono d,I.mono d,J⟩ z
mutual
theorem aQ.cN{M':Nat->Option Obj}(i:∀ b cur T fr,Z.M b=some (.cells cur T fr)->M' b=some (.cells cur T fr)):∀ {u:AV} {x:Value},aQ Z st u x->xJ u=true->aQ { Z with M:=M' } st u x
 | _,_,.p u x hp,h=>.p u x (PRep.cN i hp h)
 | _,_,.nil,_=>.nil
 | _,_,.d' s g o l k,_=>.d' s g o l k
 | _,_,.own s g off len o b ad c l k d j h3 n,_=>.own s g off len o b ad c l k d j h3 n
 | _,_,.eO s g off len ad c y hd,_=>.eO s g off len ad c y hd
 | _,_,.ptr s g ix off o b l k,_=>.ptr s g ix off o b l k
 | _,_,.kP s g ix off ad y hd,_=>.kP s g ix off ad y hd
 | _,_,.cp u vM off b o cur T fr vals z d j h3 n C,h=>.cp u vM off b o cur T fr vals (i _ _ _ _ z) d j h3 (PReps.cN i n (MD h)) C
 | _,_,.agg cs vals d j,h=>.agg cs vals d (aG.cN i j h)
 | _,_,.fn f iF vals d,h=>.fn f iF vals (aG.cN i d h)
 | _,_,.bM vs vals d,h=>.bM vs vals (aG.cN i d h)
 | _,_,.skip,_=>.skip
 | _,_,.undef x,_=>.undef x
theorem aG.cN{M':Nat->Option Obj}(d:∀ b cur T fr,Z.M b=some (.cells cur T fr)->M' b=some (.cells cur T fr)):∀ {u:List AV} {x:List Value},aG Z st u x->rL u=true->aG { Z with M:=M' } st u x
 | _,_,.nil,_=>.nil
 | _,_,.cons u x us xs f i,h=>by simp only[rL,jO]at h;exact .cons _ _ _ _ (aQ.cN d f h.1) (aG.cN d i h.2)
end
theorem U7{u:AV}(h:xJ u=true):rL u.cells=true:=by
 cases u with
 | p p =>
  cases p with
  | agg b =>
   simp[xJ,zZ]at h;simp only[AV.cells,IQ,cA];rintro _ ⟨c,d,rfl⟩;exact h c d
  | _=>simp[rL,h]
 | agg b=>exact h
 | _=>simp[rL,h]
theorem MR.Dl(hn:BI st=true)(U:jR m.2.1=true)(V:jR m.2.2=true)(k:MR P N ac st (some (gH q (some m))) Post):MR P N ac st (some (yY q m)) Post:=by
 intro code C K Z w a Q X hs W Y;obtain⟨hq,S,hX,es,clock,R,q1,q2,q3⟩:=W
 let n:Nat->Option Obj:=λb=>if b=m.1 then none else Z.M b
 have y:∀ b o,n b=some o->b≠m.1/\Z.M b=some o:=λb o h=>by
  simp only[n]at h;split at h
  .grind
  .grind
 have f:∀ b cur T fr,Z.M b=some (.cells cur T fr)->n b=some (.cells cur T fr):=λb cur T fr h=>by
  simp only[n];rw[bD];· exact h
  .grind
 simp only[BI,jO,k8]at hn;have D:∀ t,xJ (st.get t)=true:=λt=>by
  obtain h|⟨p,h,_,h3⟩:=BR (d:=AV.undef) (l:=st.sl) (s:=t)
  .simp only[St.get,h,xJ]
  .simp only[St.get,h3];exact hn.1 p h
 have J:∀ s g o,st.obj s g=some o->rL o.es=true:=λs g o i=>by
  obtain h|⟨p,h,_,h3⟩:=BR (d:=([]:List (Option bI))) (l:=st.hp) (s:=s)
  .simp_all
  .have:=hn.2 p h;simp only[St.obj,St.site,h3]at i;cases I:p.2[g]? with
   | none=>rw[I]at i;cases i
   | some x=>rw[I]at i;simp only[xW]at i;subst i;exact this _ (wM I)
 have F:bG K { Z with M:=n } st w:=by
  have h:=hs.heap;refine⟨λs g o i=>?_,h.inj,λb o j=>h.mem b o (y b o j).2,λs g o b i j=>?_,h.own,λb o j=>?_,λb o j=>h.eM b o (y b o j).2,h.keep⟩
  .have z:=h.bT s g o i;refine⟨z.pos,z.iI,z.one,z.x5,λb j=>?_⟩;obtain⟨cur,T,vals,k1,k2,k3⟩:=z.bX b j;refine⟨cur,T,vals,k1,aG.cN f k2 ?_,k3⟩;have:=J s g o i;rw[IQ]at this ⊢;intro c C;obtain⟨e,he,C⟩:=kC.1 C;exact IQ.1 (U7 (this e he)) c C
  .have:=h.sep s g o b i j;show(if b=m.1 then none else Z.M b)=none;rw[this];split<;>rfl
  .show(if b=m.1 then none else Z.M b)=some o;rw[bD];· exact h.m0 b o j
   .rintro rfl;rw[S]at j;cases j
 have O:cY Z st { Z with M:=n } st:=⟨λ_ _ _=>dE _,λ_ _ _ _ _ h=>h,λs g o _ _ i=>.inr ⟨o,i,rfl,rfl,rfl,rfl⟩⟩;have j:=hs.heap.mem _ _ R;refine k code C K { Z with M:=n } w a Q X ⟨λu=>aQ.cN f (hs.aY u) (D u),hs.defers,hs.size,F⟩ ⟨q.m _ _ _ _ O hq,⟨by simp[n],λs g o i G=>?_,(sH.1 j).1⟩,hX,es,clock,j,q1.cN f U,q2.cN f V,q3⟩ Y;have:=hs.heap.sep s g o _ i G;rw[R]at this;cases this
def G7{s g sz:Nat}{v v':AV}(j:st.obj s g=some ⟨sz,[v]⟩)(k:v'.sz=v.sz)(p:v.cells.all AV.one=true->v'.cells.all AV.one=true)(hs:aN K Z st w a)(C:∀ x,aG Z st v.cells x->aG Z st v'.cells x) :
  aN K Z (st.setObj s g ⟨sz,[v']⟩) w a/\cP Z st Z (st.setObj s g ⟨sz,[v']⟩):=by
 have n:=cP.setObj Z st s g ⟨sz,[v]⟩ ⟨sz,[v']⟩ j rfl rfl;have h:=hs.heap.bT s g _ j;refine⟨⟨λu=>?_,hs.defers,hs.size,hs.heap.yP j (es:=[v']) rfl (λx l=>?_) (λc i=>?_) (λb z=>?_)⟩,n⟩
 .rw[show(st.setObj s g ⟨sz,[v']⟩).get u=st.get u from AB (s:=st.setObj s g ⟨sz,[v']⟩) (t:=st) rfl u];exact aQ.mono n (hs.aY u)
 .rw[iT]at l;subst l;rw[k];exact h.iI v (by simp)
 .have y:=p (List.all_eq_true.2 λc i=>h.one c (by simpa using i));exact List.all_eq_true.1 y c (by simpa using i)
 .obtain⟨f,T,d,D,o,F,G,I,J⟩:=h.bX b z;refine⟨f,T,d,D,?_,F,G,I,J⟩;simp only[jG,List.flatMap_nil,kY]at o ⊢;exact C _ o
theorem aG.G6{cs:List AV}{i:Nat}{u v:AV}(hi:cs[i]?=some u)(h:∀ x,aQ Z st u x->aQ Z st v x):∀ {xs:List Value},aG Z st cs xs->aG Z st (cs.set i v) xs:=by
 induction cs generalizing i with
 | nil=>simp at hi
 | cons c cs j =>
  intro xs f;cases f with
  | cons _ x _ xs b d =>
   cases i with
   | zero=>simp at hi;subst hi;exact .cons _ _ _ _ (h _ b) d
   | succ i=>exact .cons _ _ _ _ b (j (by simpa using hi) d)
def RX{f:AV->Bool}{cs:List AV}{i:Nat}{v:AV}(h:cs.all f=true)(b:f v=true):(cs.set i v).all f=true:=by grind
theorem MR.UT{s g sz i:Nat}{cs:List AV}(G:st.obj s g=some ⟨sz,[.agg cs]⟩)(hi:cs[i]?=some (.p (.fM m.1)))(k:MR P N ac (st.setObj s g ⟨sz,[.agg (cs.set i (.p (.mp m.1 m.2.1 m.2.2)))]⟩) (some (yY q m)) Post):MR P N ac st (some (yY q m)) Post:=by
 intro code F K Z w a Q z hs y C;obtain⟨hq,n,D,es,clock,f,j,l,d⟩:=y;obtain⟨o,u⟩:=G7 (v':=.agg (cs.set i (.p (.mp m.1 m.2.1 m.2.2)))) G (by simp[AV.sz]) (λh=>RX h rfl) hs λxs b=>aG.G6 hi (λx b=>by
  have b:=b.cF;cases b;exact .p _ _ (.mp m.1 m.2.1 m.2.2 es clock f j l d.1 d.2.1 d.2.2)) b
 exact k code F K Z w a Q z o ⟨q.m _ _ _ _ (.dW u) hq,n,D,es,clock,f,j,l,d⟩ C
theorem aA.Be{s g sz i r:Nat}{ks us:List PV}{cs:List AV}(j:st.obj s g=some ⟨sz,[.agg cs]⟩)(hi:cs[i]?=some (.p (.mp r ks us))):aA st (st.setObj s g ⟨sz,[.agg (cs.set i (.p (.fM r)))]⟩):=by
 intro K Z w a hs;obtain⟨d,f⟩:=G7 (v':=.agg (cs.set i (.p (.fM r)))) j (by simp) (λh=>RX h rfl) hs λxs b=>aG.G6 hi (λx b=>by
  have b:=b.cF;cases b;exact .p _ _ (.fM r)) b
 exact⟨Z,d,.dW f⟩
theorem RL{d:Option Nat}{t kt et:TypeId}{S:List IntKind}{x y z r:Nat}{ks U kc:List PV}{v:PV}(ht:P.underlying t=some (.map kt et))(hk:Fx P kt=some S)
  (hx:st.get x=.p (.fM r)) (hy:st.get y=.p (.agg kc)) (hz:st.get z=.p v) (O:ks.all (sA S)=true) (I:kA S kc=true)
  (k:cC (st.put d .undef) (some (gH q (some (r,mQ kc v ks U))))):ql P N ⟨d,.raw (.mapUpdate t (.tmp x) (.tmp y) (.tmp z)),none⟩ st (some (gH q (some (r,ks,U)))) cC:=by
 refine .raw λK Z w a hN n hA o ho=>?_;obtain⟨hq,l,hX,es,u,q0,q1⟩:=hA;have C:=n.aY x;have D:=n.aY y;have F:=n.aY z
 rw[hx]at C;rw[hy]at D;rw[hz]at F;have W:a.eval (.tmp x)=a.tmps.getD x Go.undef:=rfl;have e2:a.eval (.tmp y)=a.tmps.getD y Go.undef:=rfl;have e3:a.eval (.tmp z)=a.tmps.getD z Go.undef:=rfl;generalize a.tmps.getD x Go.undef=X at C W;generalize a.tmps.getD y Go.undef=Y at D e2;generalize a.tmps.getD z Go.undef=V at F e3;have G:=F.cF;cases C.cF;cases D.cF with
 | agg _ ad i hv =>
  obtain⟨R,J⟩:=Qq hk;obtain⟨h,f,j,Q⟩:=RN ht R (λa b=>J a b) q0 q1 O I hv i G;have hH:bG K Z st (ChangeMaps.setBlock w r (.map h f)):=n.heap.world (Lq w r _) λb hb=>by subst hb;exact⟨l.m,l.o,hX⟩
  refine⟨.skip,Go.undef,_,.undef,some (gH q (some (r,mQ kc v ks U))),Z,by simp[execOp,ho,W,e2,e3,j],.inr ⟨rfl,rfl⟩,.undef _,hH,cP.refl Z st,⟨hq,⟨l.m,l.o,?_⟩,hX,h,f,?_,Q⟩,k⟩
  .show r<(w.heap.setIfInBounds r _).size
   grind
  .show(w.heap.setIfInBounds r _)[r]?=_
   grind
end
end Go.Ab
namespace Go.Ab
open Enc (enc)
attribute [local simp] iJ bP.aY
def mE(t:GTrans)(s:Int):List aE:=t.aD.filter λx=>decide (x.f=s)
def wW(a:aH)(x:aE):List eS:=if x.o=0/\a.f≠2 then[⟨x.i,0,⟨x.t,a.q,1⟩,x.w⟩]else[]
def pZ(r:aC)(a:aH)(x y:aE):List eS:=if x.o=y.i/\(x.o≠0\/a.f=0)then[⟨x.i,y.o,⟨x.t,y.t,0⟩,r.times x.w y.w⟩]else[]
def rD(a:aH)(y:aE):List eS:=if y.i=0/\a.f≠1 then[⟨0,y.o,⟨a.p,y.t,2⟩,y.w⟩]else[]
def qP(r:aC)(u:GTrans)(a:aH)(x:aE):List eS:=wW a x++(mE u a.q).flatMap (pZ r a x)
def tL(t u:GTrans)(a:aH):List eS:=(mE t a.p).flatMap (qP t.ring u a)++(mE u a.q).flatMap (rD a)
noncomputable def sK(t u:GTrans)(a:aH):List eS:=(tL t u a).filter λm=>!decide (m.w=t.ring.zero)
def HM(a:aH)(x:aE):(wW a x).length<=1:=by unfold wW;split<;>simp
def KC(r:aC)(a:aH)(x y:aE):(pZ r a x y).length<=1:=by unfold pZ;split<;>simp
def z54(a:aH)(y:aE):(rD a y).length<=1:=by unfold rD;split<;>simp
theorem vH{α β : Type}{f : α -> List β}{B:Nat}:∀ {l:List α},(∀ x∈l,(f x).length<=B)->(l.flatMap f).length<=l.length*B
 | [],_=>by simp
 | x::l,h=>by have d:=h x (by simp);have i:=vH (l:=l) (f:=f) (B:=B) λy b=>h y (by simp[b]);simp only[jG,gQ,qH,Ah];omega
def EK{α β : Type}(f : α -> List β){l:List α}{k:Nat}(h:k<l.length):(l.take (k+1)).flatMap f=(l.take k).flatMap f++f l[k]:=by rw[ed h,Ag];simp
def bL(t u:GTrans)(r:Nat)(d b:AV):AV:=.agg [.p (.int .i64 t.ring.kind),.p (.sl (ens t.ring.parts)),.p (.int .i64 t.i),.p (.int .i64 t.o),.p (.int .i64 t.st),.p (.sl (ens t.aM)),.p (.sl (ens t.fin)),.p (.sl (ens t.aD)),
 .p (.int .i64 u.ring.kind),.p (.sl (ens u.ring.parts)),.p (.int .i64 u.i),.p (.int .i64 u.o),.p (.int .i64 u.st),.p (.sl (ens u.aM)),.p (.sl (ens u.fin)),.p (.sl (ens u.aD)),.p (.fM r),d,b]
abbrev eF:List Nat:=[900000,900001,900002]
def cS(t u:GTrans)(r:Nat)(h f:AV)(b d:List (Option bI)):List Site:=[(900000,[some ⟨19,[bL t u r h f]⟩]),(900001,b),(900002,d)]
structure DN (lq aq:AV) (SA SB:List (Option bI)):Prop where
 l:pR eF lq=true
 a:pR eF aq=true
 sa:∀ x∈SA,vT eF x=true
 sb:∀ x∈SB,vT eF x=true
 l1:lq.one=true
 a1:aq.one=true
def DN.hp{lq aq:AV}{SA SB:List (Option bI)}(h:DN lq aq SA SB)(t u:GTrans)(r:Nat):dS eF (cS t u r lq aq SA SB)=true:=by have b:SA.all (vT eF)=true:=k8.2 h.sa;have d:SB.all (vT eF)=true:=k8.2 h.sb;simp[dS,cS,b,d,vT,bL,pR,lC,h.l,h.a]
def ur(hp:List Site)(a:aH)(r:aC)(T U:List aE)(k:Nat)(x:aE)(o:List eS)(j:Nat):St :=
 ⟨[(0,.ptr 900000 0 0 0),(3,.ptr 3 0 0 0),(5,.ptr 5 0 0 0),(6,.own 7 0 0 o.length),(8,.ptr 8 0 0 0),(24,.p (.sl (ens T))),(25,.p (.int .i64 T.length)),(26,.p (.int .i64 k)),(57,.p (.sl (ens U))),(58,.p (.int .i64 U.length)),(59,.p (.int .i64 j))],
  hp++[(3,[some ⟨3,[.p (enc a)]⟩]),(5,[some ⟨2,[.p (enc r)]⟩]),(7,[some ⟨13,aK o⟩]),(8,[some ⟨12,[.p (enc x)]⟩]),(aO,[none])]⟩
def As(hp:List Site)(a:aH)(r:aC)(T:List aE)(o:List eS)(k:Nat):St :=
 ⟨[(0,.ptr 900000 0 0 0),(3,.ptr 3 0 0 0),(5,.ptr 5 0 0 0),(6,.own 7 0 0 o.length),(24,.p (.sl (ens T))),(25,.p (.int .i64 T.length)),(26,.p (.int .i64 k))],
  hp++[(3,[some ⟨3,[.p (enc a)]⟩]),(5,[some ⟨2,[.p (enc r)]⟩]),(7,[some ⟨13,aK o⟩]),(aO,[none])]⟩
def wX(a:aH)(r:aC)(hp:List Site)(U:List aE)(o:List eS)(k:Nat):St :=
 ⟨[(3,.ptr 3 0 0 0),(5,.ptr 5 0 0 0),(6,.own 7 0 0 o.length),(105,.p (.sl (ens U))),(106,.p (.int .i64 U.length)),(107,.p (.int .i64 k))],
  hp++[(3,[some ⟨3,[.p (enc a)]⟩]),(5,[some ⟨2,[.p (enc r)]⟩]),(7,[some ⟨13,aK o⟩]),(aO,[none])]⟩
def yf5{t u:GTrans}{M:cQ t.ring}(MP:dB M){n:Nat}(hn:n<=M.lim){r0:Nat}{V F:AV}{C D:List (Option bI)}(Y:DN V F C D){a:aH}{T:List aE}{k:Nat}{x:aE}(J:x.w.aJ t.ring/\M.mb n x.w)
  {U:List aE} (hU:∀ y∈U,y.w.aJ t.ring/\M.mb n y.w) (ag:U.length<=1000) {o:List eS} (ho:o.length<=2000000) {Q:Exit->St->Prop} {ks:List Kt} {st:St} (hw:aA st (ur (cS t u r0 V F C D) a t.ring T U k x o 0))
  (hx:gA P 136 Q (fO 2 ks) 2 (ur (cS t u r0 V F C D) a t.ring T U k x (o++U.flatMap (pZ t.ring a x)) U.length)):vL P 136 Q g.qv ks st:=by
 refine b6 (S:=λj:Nat=>ur (cS t u r0 V F C D) a t.ring T U k x (o++(U.take j).flatMap (pZ t.ring a x)) j) (I:=λj=>j<=U.length) (m:=λj=>U.length - j) 0 (by simpa using hw) (by omega) ?_;rintro j hj R ad hr af;have W:=aZ j;have al:((U.take j).flatMap (pZ t.ring a x)).length<=1000:=by have:=vH (l:=U.take j) (f:=pZ t.ring a x) (B:=1) λy _=>KC _ _ _ _;rw[List.length_take]at this;omega
 by_cases d:j<U.length
 .have hs:=EK (pZ t.ring a x) d;have b:∀ st',aA st' (ur (cS t u r0 V F C D) a t.ring T U k x (o++(U.take (j+1)).flatMap (pZ t.ring a x)) (j+1))->R .normal st':=λst' h=>ad (j+1) st' h (by omega) (by omega);rw[hs,<- List.append_assoc]at b;have ao:(o++(U.take j).flatMap (pZ t.ring a x)).length<=2001000:=by rw[gQ];omega
  generalize o++(U.take j).flatMap (pZ t.ring a x)=O at *
  obtain⟨cy,my⟩:=hU _ (bU d);have G:=MP.rS hn J.1 cy J.2 my;have p:=Y.sa;have z:=Y.sb;have hl:=Y.l;have ha:=Y.a;simp[g.qv,ur,cS,bL,d];refine bK d ?_;generalize U[j]'d=y at *
  refine⟨λX=>⟨λh2=>⟨λh3=>?_,λh3=>?_⟩,λh2=>?_⟩,λX=>?_⟩
  .rw[show pZ t.ring a x y=[⟨x.i,y.o,⟨x.t,y.t,0⟩,t.ring.times x.w y.w⟩] from aX ⟨X,.inr h3⟩]at b;refine aW G ?_;simp[W,eL];refine⟨by omega,b _ (aA.cW [0,3,5,6,8,24,25,26,57,58,59] eF [((3,0),3),((5,0),5),((96,0),7),((8,0),8)] ?_)⟩;simp[ur,cS,bL,hl,ha];exact⟨p,z⟩
  .rw[show pZ t.ring a x y=[] from bD λh=>by obtain q|q:=h.2<;>contradiction,kY]at b;simp[W];exact b _ (aA.cW [0,3,5,6,8,24,25,26,57,58,59] eF [((3,0),3),((5,0),5),((7,0),7),((8,0),8)] (by simp[ur,cS,bL,hl,ha];exact⟨p,z⟩))
  .rw[show pZ t.ring a x y=[⟨x.i,y.o,⟨x.t,y.t,0⟩,t.ring.times x.w y.w⟩] from aX ⟨X,.inl h2⟩]at b;refine aW G ?_;simp[W,eL];refine⟨by omega,b _ (aA.cW [0,3,5,6,8,24,25,26,57,58,59] eF [((3,0),3),((5,0),5),((96,0),7),((8,0),8)] ?_)⟩;simp[ur,cS,bL,hl,ha];exact⟨p,z⟩
  .rw[show pZ t.ring a x y=[] from bD λh=>X h.1,kY]at b;simp[W];exact b _ (aA.cW [0,3,5,6,8,24,25,26,57,58,59] eF [((3,0),3),((5,0),5),((7,0),7),((8,0),8)] (by simp[ur,cS,bL,hl,ha];exact⟨p,z⟩))
 .have:j=U.length:=by omega
  subst this;simp[g.qv,ur,cS,bL];refine af _ _ ?_;simpa[ur,cS,bL]using hx
def yf4{t u:GTrans}{M:cQ t.ring}(MP:dB M){n:Nat}(hn:n<=M.lim){r0:Nat}{W V:AV}{G J:List (Option bI)}(X:DN W V G J){a:aH}{T:List aE}(hT:∀ x∈T,x.w.aJ t.ring/\M.mb n x.w)(av:T.length<=1000)
  (hU:∀ y∈u.aD,y.w.aJ t.ring/\M.mb n y.w) (al:u.aD.length<=1000) {Q:Exit->St->Prop} {ks:List Kt} {st:St} (hw:aA st (As (cS t u r0 W V G J) a t.ring T [] 0))
  (hx:gA P 136 Q (fO 0 ks) 0 (As (cS t u r0 W V G J) a t.ring T (T.flatMap (qP t.ring u a)) T.length)):vL P 136 Q g.rz ks st:=by
 refine b6 (S:=λk:Nat=>As (cS t u r0 W V G J) a t.ring T ((T.take k).flatMap (qP t.ring u a)) k) (I:=λk=>k<=T.length) (m:=λk=>T.length - k) 0 (by simpa using hw) (by omega) ?_;rintro k hk R ad hr ap;have e1:=aZ k;have ag:(mE u a.q).length<=1000:=Nat.le_trans (List.length_filter_le _ _) al;have bb:((T.take k).flatMap (qP t.ring u a)).length<=1001000:=by
  have:=vH (l:=T.take k) (f:=qP t.ring u a) (B:=1001) λx _=>by unfold qP;have h1:=HM a x;have h2:=vH (l:=mE u a.q) (f:=pZ t.ring a x) (B:=1) λy _=>KC _ _ _ _;rw[gQ];omega
  rw[fY]at this;have h3:min k T.length*1001<=1000*1001:=jU _ (by omega);omega
 by_cases j:k<T.length
 .have hs:=EK (qP t.ring u a) j;have d:∀ st',aA st' (As (cS t u r0 W V G J) a t.ring T ((T.take (k+1)).flatMap (qP t.ring u a)) (k+1))->R .normal st':=λst' h=>ad (k+1) st' h (by omega) (by omega);rw[hs]at d;generalize (T.take k).flatMap (qP t.ring u a)=O at *
  have au:=hT _ (bU j);have C:=LZ u a.q (by omega);rw[show u.aD.filter (λx=>decide (x.f=a.q))=mE u a.q from rfl]at C;have af:∀ y∈mE u a.q,y.w.aJ t.ring/\M.mb n y.w:=λy hy=>hU y (kI.1 hy).1;have D:=X.sa;have F:=X.sb;have hl:=X.l;have ha:=X.a;have aw:=HM a T[k];have b:∀ (o:List eS) (st':St),o=O++wW a T[k]->aA st' (ur (cS t u r0 W V G J) a t.ring T (mE u a.q) k T[k] o 0)->vL P 136 R g.qv [.bX 2,.bX 1,.code (.cX [⟨some 98,.dI .add (.t 26) (.c (.p (.int .i64 1))),none⟩,⟨some 26,.mv (.t 98),none⟩] [[8,26,57,58,59],[98]])] st':=λo st' ho ao=>by
   refine yf5 MP hn X au af ag (by rw[ho,gQ];omega) ao ?_;have Y:o++(mE u a.q).flatMap (pZ t.ring a T[k])=O++qP t.ring u a T[k]:=by rw[ho];unfold qP;simp
   rw[Y];generalize O++qP t.ring u a T[k]=O2 at *
   simp[ur,cS,bL,e1];refine d _ (aA.cW [0,3,5,6,24,25,26] eF [((3,0),3),((5,0),5),((7,0),7)] ?_);simp[As,cS,bL,hl,ha];exact⟨D,F⟩
  clear ad d hs;generalize mE u a.q=U at *
  simp[g.rz,As,cS,bL,j];refine bK j ?_;generalize T[k]'j=x at *
  refine⟨λh2=>⟨λh3=>?_,λh3=>?_⟩,λh2=>?_⟩
  .have z:wW a x=[]:=bD λh=>h.2 h3;refine aW C ?_;simp;refine b O _ (by rw[z,kY]) (aA.cW [0,3,5,6,8,24,25,26,57,58,59] eF [((3,0),3),((5,0),5),((7,0),7),((8,0),8)] ?_);simp[ur,cS,bL,hl,ha];exact⟨D,F⟩
  .have z:wW a x=[⟨x.i,0,⟨x.t,a.q,1⟩,x.w⟩]:=aX ⟨h2,h3⟩;refine⟨by omega,?_⟩;refine aW C ?_;simp;refine b (O++[⟨x.i,0,⟨x.t,a.q,1⟩,x.w⟩]) _ (by rw[z]) (aA.cW [0,3,5,6,8,24,25,26,57,58,59] eF [((3,0),3),((5,0),5),((50,0),7),((8,0),8)] ?_);simp[ur,cS,bL,hl,ha];exact⟨D,F⟩
  .have z:wW a x=[]:=bD λh=>h2 h.1;refine aW C ?_;simp;refine b O _ (by rw[z,kY]) (aA.cW [0,3,5,6,8,24,25,26,57,58,59] eF [((3,0),3),((5,0),5),((7,0),7),((8,0),8)] ?_);simp[ur,cS,bL,hl,ha];exact⟨D,F⟩
 .have:k=T.length:=by omega
  subst this;simp[g.rz,As,cS,bL];refine ap _ _ ?_;simpa[As,cS,bL]using hx
def yf3{t u:GTrans}{r0:Nat}{C z:AV}{n x:List (Option bI)}(D:DN C z n x){r:aC}{a:aH}{U:List aE}(af:U.length<=1000){o:List eS}(ho:o.length<=2000000){Q:Exit->St->Prop}{ks:List Kt}{st:St}(hw:aA st (wX a r (cS t u r0 C z n x) U o 0))
  (hx:gA P 136 Q (fO 4 ks) 4 (wX a r (cS t u r0 C z n x) U (o++U.flatMap (rD a)) U.length)):vL P 136 Q g.sc ks st:=by
 refine b6 (S:=λk:Nat=>wX a r (cS t u r0 C z n x) U (o++(U.take k).flatMap (rD a)) k) (I:=λk=>k<=U.length) (m:=λk=>U.length - k) 0 (by simpa using hw) (by omega) ?_;rintro k ag R X hr ad;have F:=aZ k;have al:((U.take k).flatMap (rD a)).length<=1000:=by have:=vH (l:=U.take k) (f:=rD a) (B:=1) λy _=>z54 _ _;rw[List.length_take]at this;omega
 by_cases d:k<U.length
 .have hs:=EK (rD a) d;have b:∀ st',aA st' (wX a r (cS t u r0 C z n x) U (o++(U.take (k+1)).flatMap (rD a)) (k+1))->R .normal st':=λst' h=>X (k+1) st' h (by omega) (by omega);rw[hs,<- List.append_assoc]at b;have ao:(o++(U.take k).flatMap (rD a)).length<=2001000:=by rw[gQ];omega
  generalize o++(U.take k).flatMap (rD a)=O at *
  have i:=D.sa;have j:=D.sb;have W:=D.l;have V:=D.a;simp[g.sc,wX,cS,bL,d];refine bK d ?_;generalize U[k]'d=y at *
  have skip:rD a y=[]->∀ st',aA st' (wX a r (cS t u r0 C z n x) U O (k+1))->R .normal st':=λh st' Y=>b st' (by rw[h,kY];exact Y);refine⟨λG=>⟨λJ=>?_,λJ=>?_⟩,λG=>?_⟩
  .simp[F];exact skip (bD λh=>h.2 J) _ (aA.cW [3,5,6,105,106,107] eF [((3,0),3),((5,0),5),((7,0),7)] (by simp[wX,cS,bL,W,V];exact⟨i,j⟩))
  .rw[show rD a y=[⟨0,y.o,⟨a.p,y.t,2⟩,y.w⟩] from aX ⟨G,J⟩]at b;refine⟨by omega,?_⟩;simp[F];refine b _ (aA.cW [3,5,6,105,106,107] eF [((3,0),3),((5,0),5),((131,0),7)] ?_);simp[wX,cS,bL,W,V];exact⟨i,j⟩
  .simp[F];exact skip (bD λh=>G h.1) _ (aA.cW [3,5,6,105,106,107] eF [((3,0),3),((5,0),5),((7,0),7)] (by simp[wX,cS,bL,W,V];exact⟨i,j⟩))
 .have:k=U.length:=by omega
  subst this;simp[g.sc,wX,cS,bL];refine ad _ _ ?_;simpa[wX,cS,bL]using hx
end Go.Ab
namespace Go.Ab
section
variable {P:Program} {K:Ctx} {Z Z':Cz} {w w':World} {a:Act}
theorem aG.split{st:St}:∀ {vs us:List AV} {xs:List Value},aG Z st (vs++us) xs->∃ a b,xs=a++b/\aG Z st vs a/\aG Z st us b
 | [],us,xs,h=>⟨[],xs,rfl,.nil,h⟩
 | v::vs,us,_,.cons _ _ _ _ h hs=>by obtain⟨a,b,rfl,d,f⟩:=aG.split (vs:=vs) hs;exact⟨_::a,b,rfl,.cons _ _ _ _ h d,f⟩
theorem aA.G2{t s k sz:Nat}{es:List AV}{hp:List Site}(Y:s<fU)(S:(hp.map (·.1)).contains s=false)(hd:(hp.map (·.1)).contains aO=false)(Cs:dS (hp.map (·.1)) hp=true)(J:lC (hp.map (·.1)) es=true)(hk:k<=es.length) :
  aA ⟨[(t,.own s 0 0 k)],hp++[(s,[some ⟨sz,es⟩]),(aO,[none])]⟩ ⟨[(t,.own s 0 0 k)],hp++[(s,[some ⟨sz,es.take k⟩]),(aO,[none])]⟩:=by
 intro K Z w a hs;have ag:s≠aO:=by unfold fU at Y;unfold aO;omega
 have f:∀ (es:List AV) (u:Nat),(hp.map (·.1)).contains u=true->(⟨[(t,.own s 0 0 k)],hp++[(s,[some ⟨sz,es⟩]),(aO,[none])]⟩:St).site u=look hp u []:=λes u hu=>by simp only[St.site,CS,hu,cH]
 have d:∀ (es:List AV) (u:Nat),(hp.map (·.1)).contains u=false->(⟨[(t,.own s 0 0 k)],hp++[(s,[some ⟨sz,es⟩]),(aO,[none])]⟩:St).site u=if s=u then[some ⟨sz,es⟩]else if aO=u then[none]else[]:=λes u hu=>by simp only[St.site,CS,hu,gP,fQ,look]
 have y:∀ (es:List AV) s' g' o',(⟨[(t,.own s 0 0 k)],hp++[(s,[some ⟨sz,es⟩]),(aO,[none])]⟩:St).obj s' g'=some o'->(hp.map (·.1)).contains s'=true\/(s'=s/\g'=0/\o'=⟨sz,es⟩):=by
  intro es s' g' o' h;cases hu:(hp.map (·.1)).contains s' with
  | true=>exact .inl rfl
  | false =>
   right;simp only[St.obj,d es s' hu]at h;split at h
   .rename_i af;cases g' with
    | zero=>simp at h;exact⟨af.symm,rfl,h.symm⟩
    | succ g=>simp at h
   .split at h
    .cases g'<;>simp at h
    .simp at h
 have n:∀ es:List AV,(⟨[(t,.own s 0 0 k)],hp++[(s,[some ⟨sz,es⟩]),(aO,[none])]⟩:St).obj s 0=some ⟨sz,es⟩:=λes=>by unfold St.obj;rw[d es s S];simp
 have same:∀ u,(hp.map (·.1)).contains u=true->(⟨[(t,.own s 0 0 k)],hp++[(s,[some ⟨sz,es.take k⟩]),(aO,[none])]⟩:St).site u=(⟨[(t,.own s 0 0 k)],hp++[(s,[some ⟨sz,es⟩]),(aO,[none])]⟩:St).site u:=λu hu=>by rw[f _ u hu,f _ u hu]
 have l:∀ u g,(hp.map (·.1)).contains u=true->(⟨[(t,.own s 0 0 k)],hp++[(s,[some ⟨sz,es.take k⟩]),(aO,[none])]⟩:St).obj u g=(⟨[(t,.own s 0 0 k)],hp++[(s,[some ⟨sz,es⟩]),(aO,[none])]⟩:St).obj u g:=λu g hu=>by simp only[St.obj,same u hu]
 have G:=hs.heap.bT s 0 _ (n es);have j:∀ s' g' o',(⟨[(t,.own s 0 0 k)],hp++[(s,[some ⟨sz,es.take k⟩]),(aO,[none])]⟩:St).obj s' g'=some o'->∃ o0,(⟨[(t,.own s 0 0 k)],hp++[(s,[some ⟨sz,es⟩]),(aO,[none])]⟩:St).obj s' g'=some o0:=λs' g' o' h=>by
  obtain hu|⟨rfl,rfl,_⟩:=y _ _ _ _ h
  .rw[l s' g' hu]at h;exact⟨o',h⟩
  .exact⟨_,n es⟩
 refine⟨Z,⟨λu=>?_,hs.defers,hs.size,⟨λs' g' o' h=>?_,λs1 g1 s2 g2 o1 o2 b F Q e1 e2=>?_,hs.heap.mem,λs' g' o' b h z=>?_,λs' g' o' b h z=>?_,hs.heap.m0,hs.heap.eM,hs.heap.keep⟩⟩,⟨λu a b=>?_,λu g a b W hn=>?_,λu g o a b D=>?_⟩⟩
 .have hu:=hs.aY u;simp only[St.get,look]at hu ⊢;split at hu
  .rename_i C;simp only[C,cH];generalize a.tmps.getD u Go.undef=x at hu;cases hu with
   | d' _ _ o D z =>
    exact .d' _ _ _ (n _) z
   | own _ _ _ _ o b ad c D z F Q h3 h4 =>
    rw[n]at D;cases D;exact .own _ _ _ _ _ b ad c (n _) z F Q (by simp;omega) h4
   | eO _ _ _ _ _ _ _ I=>rw[n]at I;cases I
  .rename_i C;simp only[C,fQ];exact .undef _
 .obtain hu|⟨rfl,rfl,rfl⟩:=y _ _ _ _ h
  .rw[l s' g' hu]at h;have X:(⟨[],hp⟩:St).obj s' g'=some o':=by simp only[St.obj,f es s' hu]at h;exact h
   exact oC.gU same (λ_ _ h=>h) (λ_ _ _=>⟨rfl,rfl⟩) hu (FW Cs X) (hs.heap.bT s' g' o' h)
  .refine⟨G.pos,λe V=>G.iI e (iC V),λc S=>?_,λhn=>?_,λb z=>?_⟩
   .obtain⟨e,V,U⟩:=kC.1 S;exact G.one c (kC.2 ⟨e,iC V,U⟩)
   .have:=G.x5 hn;simp only at this;rw[this];simp
   .obtain⟨cur,T,vals,k1,k2,k3,k4,k5,k6⟩:=G.bX b z;have e:es.flatMap AV.cells=(es.take k).flatMap AV.cells++(es.drop k).flatMap AV.cells:=by rw[<- List.flatMap_append,oK]
    rw[e]at k2;obtain⟨v1,v2,rfl,q1,q2⟩:=aG.split k2;refine⟨cur,T,v1,k1,aG.gU (st:=⟨[(t,.own s' 0 0 k)],hp++[(s',[some ⟨sz,es⟩]),(aO,[none])]⟩) (Z:=Z) same (λ_ _ h=>h) (λ_ _ _=>⟨rfl,rfl⟩) q1 ?_,λi v hv=>k3 i v (by rw[wN (iU.1 hv).1];exact hv),k4,by simp only[fY];simp only at k5;omega,k6⟩;have F:lC (hp.map (·.1)) (es.take k)=true:=by rw[yE,k8]at J ⊢;exact λx hx=>J x (iC hx)
    exact MS F
 .obtain⟨O,p⟩:=j _ _ _ F;obtain⟨al,R⟩:=j _ _ _ Q;exact hs.heap.inj _ _ _ _ _ _ b p R e1 e2
 .obtain⟨O,p⟩:=j _ _ _ h;exact hs.heap.sep _ _ _ b p z
 .obtain⟨O,p⟩:=j _ _ _ h;exact hs.heap.own _ _ _ b p z
 .cases hu:(hp.map (·.1)).contains u with
  | true=>rw[same u hu];exact dE _
  | false=>rw[d _ u hu,d _ u hu];split<;>simp
 .cases hu:(hp.map (·.1)).contains u with
  | true=>rw[l u g hu];exact hn
  | false =>
   simp only[d _ u hu]at W;rw[bD (by omega),bD (by unfold aO;omega)]at W;simp at W
 .cases hu:(hp.map (·.1)).contains u with
  | true=>rw[l u g hu];exact .inr ⟨o,D,rfl,rfl,rfl,rfl⟩
  | false =>
   obtain h|⟨rfl,_,_⟩:=y _ _ _ _ D
   .rw[h]at hu;cases hu
   .omega
end
end Go.Ab
namespace Go.Ab
open Enc (enc)
attribute [local simp] iJ bP.aY
def SE{t u:GTrans}{M:cQ t.ring}{n:Nat}{a:aH}(h:∀ x∈t.aD,x.w.aJ t.ring/\M.mb n x.w)(f:∀ y∈u.aD,y.w.aJ t.ring/\M.mb n y.w):∀ m∈tL t u a,m.w.aJ t.ring/\M.mb (n+n+1) m.w:=by
 intro m hm;unfold tL at hm;obtain hm|hm:=dN.1 hm
 .obtain⟨x,d,hm⟩:=kC.1 hm;have d:=h x (kI.1 d).1;unfold qP at hm;obtain hm|hm:=dN.1 hm
  .unfold wW at hm;split at hm
   .rw[iT]at hm;subst hm;exact⟨d.1,M.mono d.2 (by omega)⟩
   .cases hm
  .obtain⟨y,b,hm⟩:=kC.1 hm;have b:=f y (kI.1 b).1;unfold pZ at hm;split at hm
   .rw[iT]at hm;subst hm;exact⟨Eu d.1 b.1,M.times d.1 b.1 d.2 b.2⟩
   .cases hm
 .obtain⟨y,b,hm⟩:=kC.1 hm;have b:=f y (kI.1 b).1;unfold rD at hm;split at hm
  .rw[iT]at hm;subst hm;exact⟨b.1,M.mono b.2 (by omega)⟩
  .cases hm
theorem FQ(ks:List Nat)(ids:List ((Nat × Nat) × Nat)):∀ l:List PV,fq ks ids (l.map AV.p)=l.map AV.p
 | []=>rfl
 | x::l=>by simp only[jH,fq,eo,FQ ks ids l]
def z58{t u:GTrans}{M:cQ t.ring}(MP:dB M){n:Nat}(hn:n+n+1<=M.lim)(hT:∀ x∈t.aD,x.w.aJ t.ring/\M.mb n x.w)(hU:∀ y∈u.aD,y.w.aJ t.ring/\M.mb n y.w)(av:t.aD.length<=900)(aw:u.aD.length<=900)(F:∀ a,(tL t u a).length<=1000000)
  {r0:Nat} {I C:AV} {j z:List (Option bI)} (D:DN I C j z) (a:aH) :
  kU P 66 [.ptr 900000 0 0 0,.p (enc a)] (cS t u r0 I C j z) none (.fr 13 (ens (sK t u a))) (cS t u r0 I C j z) none:=by
 have h:=D.sa;have i:=D.sb;have Y:=D.l;have X:=D.a;refine kU.fZ c.jm (by simp) rfl (by simp[cS,fU]) rfl ?_ λq=>MR.cE ?_
 .show(vU eF (.fr 13 (ens (sK t u a)))&&dS eF (cS t u r0 I C j z))=true;rw[D.hp,Bool.and_true];have h1:=jF (sK t u a) 13 rfl;have h2:(sK t u a).length<=1000000:=dM (kB _ _) (F a);have h3:(ens (sK t u a)).length<=eL:=by simp[-gW,ens,eL];omega
  simp[vU];exact λx G=>by simpa using List.all_eq_true.1 h1 x G
 have V:=LZ t a.p (by omega);have W:=LZ u a.q (by omega);rw[show t.aD.filter (λx=>decide (x.f=a.p))=mE t a.p from rfl]at V;rw[show u.aD.filter (λx=>decide (x.f=a.q))=mE u a.q from rfl]at W;have ag:∀ x∈mE t a.p,x.w.aJ t.ring/\M.mb n x.w:=λx G=>hT x (kI.1 G).1;have S:(mE t a.p).length<=1000:=dM (kB _ _) (by omega);have U:(mE u a.q).length<=1000:=dM (kB _ _) (by omega);have hw:=SE (a:=a) hT hU;have d:=F a;have hF:(tL t u a).filter (λx=>!decide (x.w=t.ring.zero))=sK t u a:=rfl;generalize sK t u a=b at *
 simp[g.jm,tQ,cS,bL];refine aW V ?_;simp;refine yf4 (t:=t) (u:=u) (r0:=r0) MP (n:=n) (by omega) D (a:=a) (T:=mE t a.p) ag S hU (by omega) (aA.nl 6 77 13 rfl (aA.cW [0,3,5,6,24,25,26] eF [((3,0),3),((5,0),5),((77,0),7)] ?_)) ?_
 .simp[As,cS,bL,Y,X];exact⟨h,i⟩
 have ao:((mE t a.p).flatMap (qP t.ring u a)).length<=1000000:=by unfold tL at d;rw[gQ]at d;omega
 have hO:tL t u a=(mE t a.p).flatMap (qP t.ring u a)++(mE u a.q).flatMap (rD a):=rfl;rw[hO]at hw d hF;generalize (mE t a.p).flatMap (qP t.ring u a)=O at *
 simp[As,cS,bL];refine aW W ?_;simp;refine yf3 (t:=t) (u:=u) (r0:=r0) D (r:=t.ring) (a:=a) U (o:=O) (by omega) (aA.cW [3,5,6,105,106,107] eF [((3,0),3),((5,0),5),((7,0),7)] ?_) ?_
 .simp[wX,cS,bL,Y,X];exact⟨h,i⟩
 generalize O++(mE u a.q).flatMap (rD a)=J at *
 simp[wX,cS,bL];refine IV (Wf 117 [.ref (enc t.ring)] (λx=>decide (x.w=t.ring.zero)) J d λx G=>Yy x t.ring ((MP.pr hn (hw x G).1 (hw x G).2).mono (by omega))) (by simp[A7,AJ]) rfl rfl (by simp) (by simp) (by simp;have:=kB (λx:eS=>!decide (x.w=t.ring.zero)) J;omega) rfl (jF _ _ rfl) (cells_one Kz _) (by simp) (kB _ _) ?_;rw[hF];have au:b.length<=J.length:=by rw[<- hF];exact kB _ _
 have ad:=It b (List.replicate (J.length - b.length) (⟨0,0,⟨0,0,0⟩,dT⟩:eS));have ap:(ens (b++List.replicate (J.length - b.length) (⟨0,0,⟨0,0,0⟩,dT⟩:eS))).length=J.length:=by simp[-gW,ens];omega
 generalize ens (b++List.replicate (J.length - b.length) (⟨0,0,⟨0,0,0⟩,dT⟩:eS))=Q at *
 have af:lC eF (Q.map AV.p)=true:=by rw[yE,k8];intro x G;obtain⟨y,_,rfl⟩:=cA.1 G;rfl
 have R:∀ st',aA st' ⟨[(4,.own 7 0 0 b.length)],cS t u r0 I C j z++[(7,[some ⟨13,Q.map AV.p⟩]),(aO,[none])]⟩->Du [(4,none)] (cS t u r0 I C j z) (.fr 13 (ens b)) (cS t u r0 I C j z) .ret st':=λst' al=>by
  refine⟨.inl rfl,_,al.trans (aA.G2 (t:=4) (s:=7) (k:=b.length) (sz:=13) (es:=Q.map AV.p) (hp:=cS t u r0 I C j z) (by decide) rfl rfl (D.hp t u r0) af (by rw[ra];omega)),[.own 7 0 0 b.length],rfl,⟨rfl,.inr ⟨7,0,rfl,?_,?_⟩⟩,?_⟩
  .simp[-gW,dD,ens]
  .rw[ad];rfl
  .simp[qA,cS,St.site,look]
 cases bb:Q.all PV.flat
 .simp[aI];exact R _ (aA.cW [4] eF [((7,0),7)] (by simp[cS,bL,Y,X];exact⟨⟨h,i⟩,FQ _ _ Q⟩))
 .simp;exact R _ (aA.cW [4] eF [((7,0),7)] (by simp[cS,bL,Y,X];exact⟨⟨h,i⟩,FQ _ _ Q⟩))
end Go.Ab
namespace Go.Ab
open Enc (enc)
def AW{α : Type}[Enc α](h:∀ x : α,(enc x).cN=true)(l:List α):jR (ens l)=true:=by rw[zZ];intro v b;obtain⟨x,_,rfl⟩:=cA.1 b;exact h x
def XG(x:aF):(enc x).cN=true:=by simp[PV.cN,jR,ME]
theorem HN:∀ w:GW,(enc w).cN=true
 | .mk q c i s p d=>by
  have h:∀ x∈d,(enc x).cN=true:=λx b=>HN x;have f:jR (ens d)=true:=by rw[zZ];intro v j;obtain⟨x,b,rfl⟩:=cA.1 j;exact h x b
  simp[PV.cN,jR,ME,f,AW XG p]
termination_by w=>SizeOf.sizeOf w
decreasing_by
 have:=List.sizeOf_lt_of_mem b
 simp_wf;omega
def PG(x:aE):(enc x).cN=true:=by have h:=HN x.w;obtain⟨f,i,o,t,w⟩:=x;cases w;simp[PV.cN,jR]at h ⊢;exact h
theorem ya9(x:Int):(enc x).cN=true:=rfl
theorem Im(x:aH):(enc x).cN=true:=rfl
theorem yej(σ : Sg)(l:List PV):gC σ (l.map .p)=l.map .p:=by rw[yB,yG];rfl
def H3(σ : Sg){α : Type}[Enc α](l:List α):gC σ (aK l)=aK l:=yej σ (ens l)
def P2(σ : Sg)(l r:List AV):gC σ (l++r)=gC σ l++gC σ r:=by simp[yB]
def FH{st st':St}(keep:List Nat)(b:List (Nat × List (Nat × Nat)))(h:AE st.hp b=true)(f:Sg->Prop)(i:f (nS st b))(d:∀ σ,f σ -> (⟨keep.map λt=>(t,Go.Ab.sub σ (st.get t)),sL st σ b⟩:St)=st'):aA st st':=by have e:st.lV keep b=st':=d _ i;exact e ▸ aA.lV keep b h
def sM:List Bool->Nat
 | []=>0
 | b::l=>(!b).toNat+sM l
theorem Ks:∀ (l:List Bool) (i:Nat),l.getD i true=false->sM (l.set i true)+1=sM l
 | [],i,h=>by simp at h
 | b::l,0,h=>by
  have:b=false:=by simpa using h
  subst this;simp[sM];omega
 | b::l,i+1,h=>by have:=Ks l i (by simpa using h);simp only[List.set_cons_succ,sM];omega
def L7{l:List Bool}{i q:Nat}(b:i<l.length):(l.set i true).getD q false=if i=q then true else l.getD q false:=by
 rw[eV,eV,vK];by_cases h:i=q
 .subst h;simp[b]
 .simp[h]
end Go.Ab
namespace Go.Ab
open Enc (enc)
attribute [local simp] iJ bP.aY
def dH{α : Type}(f:Nat):List α -> AV
 | []=>.nil
 | _::l=>.own f l.length 0 (l.length+1)
def eK{α : Type}[Enc α](sz:Nat)(L:List α):List (Option bI):=match L with
 | []=>[]
 | _::l=>List.replicate l.length none++[some ⟨sz,aK L⟩]
def kL(n:Nat):List PV:=(List.range n).map λi=>.int .i64 ((i:Nat):Int)
def dQ(r:Nat)(L:List aH):zaV:=(r,ens L,kL L.length)
def iE(at_:aH):List aH->Nat->Option Nat
 | [],_=>none
 | x::l,i=>if at_=x then some i else iE at_ l (i+1)
noncomputable def dZ(L:List aH)(x:aH):List aH:=if x∈L then L else L++[x]
def cZ(t u:GTrans)(r:Nat)(L:List aH)(K:List aE):List Site:=cS t u r (dH 900001 L) (dH 900002 K) (eK 3 L) (eK 12 K)
theorem HS{α : Type}[Enc α](sz:Nat)(L:List α):∀ x∈eK sz L,vT eF x=true:=by
 intro x b;cases L with
 | nil=>cases b
 | cons y l =>
  obtain b|b:=dN.1 b
  .rw[B8 b];rfl
  .simp only[iT]at b;subst b;show lC _ (aK (y::l))=true;simp
def nO(L:List aH)(K:List aE):DN (dH 900001 L) (dH 900002 K) (eK 3 L) (eK 12 K) :=
 ⟨by cases L<;>rfl,by cases K<;>rfl,HS 3 L,HS 12 K,by cases L<;>rfl,by cases K<;>rfl⟩
theorem Tg{α : Type}[Enc α](σ : Sg)(sz:Nat)(L:List α):(eK sz L).map (Option.map (iM σ))=eK sz L:=by
 cases L with
 | nil=>rfl
 | cons y l=>simp only[eK,sS,List.map_replicate,jH,JC,E4,Option.map_none,iM,H3]
def O6{α : Type}{σ : Sg}{f:Nat}(h:∀ g,σ f g=(f,g))(L:List α):sub σ (dH f L)=dH f L:=by cases L<;>simp[dH,sub,h]
def Pv{α : Type}[Enc α](sz:Nat)(L:List α)(x : α):eK sz (L++[x])=List.replicate L.length none++[some ⟨sz,aK (L++[x])⟩]:=by cases L<;>simp[eK]
def PK{α : Type}(f:Nat)(L:List α)(x : α):dH f (L++[x])=.own f L.length 0 (L.length+1):=by cases L<;>simp[dH]
theorem Mc:∀ {l:List PV},jR l=true->rL (l.map .p)=true
 | [],_=>rfl
 | v::l,h=>by simp only[jR,jO]at h;simp only[jH,rL,xJ,h.1,Mc h.2,GU]
theorem Pu{α : Type}[Enc α](d:∀ x : α,(enc x).cN=true)(sz:Nat)(L:List α):(eK sz L).all (λo=>match o with|some o=>rL o.es|none=>true)=true:=by
 cases L with
 | nil=>rfl
 | cons y l =>
  rw[k8];intro x b;obtain b|b:=dN.1 b
  .rw[B8 b]
  .simp only[iT]at b;subst b;exact Mc (AW d _)
def XK{α : Type}(f:Nat)(L:List α):xJ (dH f L)=true:=by cases L<;>rfl
def OZ(t u:GTrans)(r:Nat)(L:List aH)(K:List aE):BI ⟨[],cZ t u r L K⟩=true:=by have b:=Pu Im 3 L;have d:=Pu PG 12 K;simp[BI,cZ,cS,bL,rL,xJ,PV.cN,XK,AW ya9,AW HN,AW PG];exact⟨k8.1 b,k8.1 d⟩
theorem QZ{x:aH}{v:PV}:∀ {L:List aH} {vs:List PV},vs.length=L.length->x∉L->mQ [.int .i64 x.p,.int .i64 x.q,.int .i64 x.f] v (ens L) vs=(ens (L++[x]),vs++[v])
 | [],[],_,_=>rfl
 | y::l,w::vs,n,d=>by
  have o:=QZ (x:=x) (v:=v) (L:=l) (vs:=vs) (by simpa using n) (λh=>d (List.mem_cons_of_mem _ h));show mQ _ v (.agg [.int .i64 y.p,.int .i64 y.q,.int .i64 y.f]::ens l) (w::vs)=_;simp only[mQ];rw[if_neg,o]
  .rfl
  .intro b;apply d;cases x;cases y;simp[tD]at b;obtain⟨i,j,k⟩:=b;subst i j k;exact List.mem_cons_self
theorem MQ(x:aH):∀ (L:List aH) (i:Nat),oE [.int .i64 x.p,.int .i64 x.q,.int .i64 x.f] (ens L) ((List.range' i L.length).map λi=>.int .i64 ((i:Nat):Int))=(iE x L i).map λj=>.int .i64 (j:Int)
 | [],i=>rfl
 | y::l,i=>by
  have d:=MQ x l (i+1);simp only[ens,jH,qH,List.range'_succ]at d ⊢;show oE _ (PV.agg [.int .i64 y.p,.int .i64 y.q,.int .i64 y.f]::_) _=_;simp only[oE,iE];by_cases h:x=y
  .subst h;rw[aX rfl,aX (by simp[tD])];rfl
  .rw[bD h,bD]
   .exact d
   .intro b;apply h;cases x;cases y;simp[tD]at b;obtain⟨k,n,o⟩:=b;subst k n o;rfl
theorem CX{x:aH}:∀ {L:List aH} {i:Nat},iE x L i=none ↔ x∉L
 | [],i=>by simp[iE]
 | y::l,i=>by
  simp only[iE,cI,not_or];by_cases h:x=y
  .rw[aX h];simp[h]
  .rw[bD h,CX];simp[h]
def aH.ok(x:aH):Prop:=(0<=x.p/\x.p<1000)/\(0<=x.q/\x.q<1000)/\0<=x.f/\x.f<=2
def Di{n:Int}(h:0<=n/\n<1000):(Lit.int .i64 n).wf=true:=by simp[Lit.wf,IntKind.min,IntKind.max,IntKind.signed,IntKind.bits];omega
def Eo{x:aH}(h:x.ok):kA [.i64,.i64,.i64] [.int .i64 x.p,.int .i64 x.q,.int .i64 x.f]=true:=by obtain⟨b,d,i,j⟩:=h;simp[kA,Di b,Di d,Di (show 0<=x.f/\x.f<1000 by omega)]
def MA{L:List aH}(h:∀ x∈L,x.ok):∀ y∈ens L,sA [.i64,.i64,.i64] y=true:=by intro y d;obtain⟨x,b,rfl⟩:=cA.1 d;exact Eo (h x b)
theorem Md(n:Nat):jR (kL n)=true:=by rw[zZ];intro v b;obtain⟨i,_,rfl⟩:=cA.1 b;rfl
theorem PF(t u:GTrans)(r:Nat)(L:List aH)(K:List aE)(x:aH)(b:Bool):BI ⟨[(0,.ptr 900000 0 0 0),(3,.ptr 3 0 0 0),(5,.p (.bool b))],cZ t u r L K++[(3,[some ⟨3,[.p (enc x)]⟩]),(aO,[none])]⟩=true:=by have h:=OZ t u r L K;unfold BI at h ⊢;simp only[List.all_nil,GN]at h;simp only[List.all_append];rw[h];rfl
def TH{t u:GTrans}{r:Nat}{L:List aH}{K:List aE}(hL:L.length<=100000)(ok:∀ y∈L,y.ok){x:aH}(O:x.ok) :
  kU P 70 [.ptr 900000 0 0 0,.p (enc x)] (cZ t u r L K) (some (dQ r L)) (.av (.bM [])) (cZ t u r (dZ L x) K) (some (dQ r (dZ L x))):=by
 refine kU.fZ c.gg (by simp) rfl (by simp[cZ,cS,fU]) rfl ?_ λq=>?_
 .show(true&&dS eF (cZ t u r (dZ L x) K))=true;rw[show dS eF (cZ t u r (dZ L x) K)=true from (nO _ _).hp t u r];rfl
 have z:=HS 3 L;have G:=HS 12 K;have J:=(nO L K).l;have ha:=(nO L K).a;unfold g.gg;refine MR.dG ?_;simp[tQ,cZ,cS];refine MR.UU ?_;refine MR.UT (s:=900000) (g:=0) (sz:=19) (i:=16) rfl rfl ?_;refine MR.dG ?_;simp[bL,dQ];refine⟨⟨Eo O,MA ok⟩,?_⟩;have o:=MQ x L 0;rw[<- List.range_eq_range']at o;rw[show kL L.length=(List.range L.length).map λi=>PV.int .i64 ((i:Nat):Int) from rfl,o];by_cases F:x∈L
 .obtain⟨j,hj⟩:∃ j,iE x L 0=some j:=by
   cases h:iE x L 0 with
   | none=>exact absurd F (CX.1 h)
   | some j=>exact⟨j,rfl⟩
  rw[hj,show dZ L x=L from aX F];simp;refine MR.eE (aA.Be (s:=900000) (g:=0) (sz:=19) (i:=16) rfl rfl) ?_;refine MR.eE (st1:=⟨[(0,.ptr 900000 0 0 0),(3,.ptr 3 0 0 0),(5,.p (.bool true))],cZ t u r L K++[(3,[some ⟨3,[.p (enc x)]⟩]),(aO,[none])]⟩) (aA.cW [0,3,5] eF [((3,0),3)] ?_) ?_
  .simp[cZ,cS,bL,J,ha];exact⟨z,G⟩
  refine MR.Dl (PF t u r L K x true) (AW Im L) (Md L.length) ?_;refine MR.dG ?_;simp;refine MR.eY (t:=false) rfl (λh=>by cases h) λ_=>?_;refine MR.pE ⟨rfl,.inr rfl,_,aA.refl _,[],rfl,?_,?_⟩
  .show dD []=AV.bM [];rfl
  simp[qA,cZ,cS,bL]
 .rw[CX.2 F,show dZ L x=L++[x] from bD F];simp;refine MR.eE (aA.Be (s:=900000) (g:=0) (sz:=19) (i:=16) rfl rfl) ?_;refine MR.eE (st1:=⟨[(0,.ptr 900000 0 0 0),(3,.ptr 3 0 0 0),(5,.p (.bool false))],cZ t u r L K++[(3,[some ⟨3,[.p (enc x)]⟩]),(aO,[none])]⟩) (aA.cW [0,3,5] eF [((3,0),3)] ?_) ?_
  .simp[cZ,cS,bL,J,ha];exact⟨z,G⟩
  refine MR.Dl (PF t u r L K x false) (AW Im L) (Md L.length) ?_;refine MR.dG ?_;simp;refine MR.eY (t:=true) rfl (λ_=>?_) λh=>by cases h
  refine MR.cK ?_;refine MR.yW rfl (by decide) ?_;have d:=QZ (x:=x) (v:=.int .i64 L.length) (L:=L) (vs:=kL L.length) (by simp[kL]) F;have k:kL L.length++[.int .i64 (L.length:Int)]=kL (L++[x]).length:=by simp[kL,B7]
  rw[k]at d;have C:=λσ (h:∀ g,σ 900002 g=(900002,g))=>O6 (σ := σ) h K;have D:=λσ=>Tg σ 12 K;have I:(ens L).all (sA [.i64,.i64,.i64])=true:=k8.2 (MA ok);have Q:=PK 900001 L x;have R:=Pv 3 L x;rw[show(List.range L.length).map (λi=>PV.int .i64 ((i:Nat):Int))=kL L.length from rfl];simp only[cZ,cS]at Q R ⊢;generalize dH 900002 K=W at *
  generalize eK 12 K=V at *
  cases L with
  | nil =>
   simp[bL,show dH 900001 ([]:List aH)=.nil from rfl,show eK 3 ([]:List aH)=[] from rfl];refine RL (ks:=[]) ty.yJ ty.yK rfl rfl rfl rfl (Eo O) ?_;rw[show mQ [.int .i64 x.p,.int .i64 x.q,.int .i64 x.f] (.int .i64 0) [] (kL 0)=(ens [x],kL 1) from d];refine MR.cE ?_;simp;refine⟨.inr rfl,⟨[],[(900000,[some ⟨19,[bL t u r (dH 900001 [x]) W]⟩]),(900001,eK 3 [x]),(900002,V),(aO,[none])]⟩,FH [] [(900000,[(900000,0)]),(900001,[(900001,0),(34,0)]),(900002,[(900002,0)])] ?_ (λσ=>σ 900000 0=(900000,0) /\ σ 34 0=(900001,0)/\(∀ g,σ 900002 g=(900002,g))) ?_ ?_,[],rfl,rfl,?_⟩
   .simp[AE,EP,xK,fU,aO,CU]
   .simp[nS,uA,pQ,St.site,look]
   .rintro σ ⟨s1,S,U⟩;simp[sL,mJ,sub,iM,gC,St.get,look,St.site,S,C σ U,D σ,bL,dH,eK]<;>rfl
   .simp[qA,St.site,look,bL]
  | cons y l =>
   generalize b:y::l=L at *
   have n:L.length=l.length+1:=by rw[<- b];rfl
   have X:dH 900001 L=.own 900001 l.length 0 (l.length+1):=by rw[<- b];rfl
   have Y:eK 3 L=List.replicate l.length none++[some ⟨3,aK L⟩]:=by rw[<- b];rfl
   have e3:(aK L).length=l.length+1:=by rw[vE,n]
   rw[X,Y];clear X Y b z o J;rw[n]at d Q R k hL ⊢;simp[bL];have ad:kL (l.length+1)=kL (l.length+1):=rfl;refine RL (ks:=ens L) ty.yJ ty.yK rfl rfl rfl I (Eo O) ?_;rw[show mQ [.int .i64 x.p,.int .i64 x.q,.int .i64 x.f] (.int .i64 ((l.length:Int)+1)) (ens L) (kL (l.length+1))=(ens (L++[x]),kL (L++[x]).length) from by simpa using d];refine MR.cE ?_;simp[e3];refine⟨by omega,by rw[n],?_⟩;rw[Q,R];refine⟨.inr rfl,⟨[],[(900000,[some ⟨19,[bL t u r (.own 900001 (l.length+1) 0 (l.length+1+1)) W]⟩]),(900001,List.replicate (l.length+1) none++[some ⟨3,aK (L++[x])⟩]),(900002,V),(aO,[none])]⟩,FH [] [(900000,[(900000,0)]),(900001,[(900001,0),(34,0)]),(900002,[(900002,0)])] ?_ (λσ=>σ 900000 0=(900000,0) /\ σ 34 0=(900001,l.length+1)/\(∀ g,σ 900002 g=(900002,g))) ?_ ?_,[],rfl,rfl,?_⟩
   .simp[AE,EP,xK,fU,aO,CU]
   .simp[nS,uA,pQ,St.site,look]
   .rintro σ ⟨s1,S,U⟩;simp[sL,mJ,sub,iM,gC,St.get,look,St.site,S,C σ U,D σ,bL,P2,H3];rw[Jv,sI];rfl
   .simp[qA,St.site,look,bL]
structure kG (ns nu:Nat) (L:List aH):Prop where
 nd:L.Nodup
 b:∀ y∈L,(0<=y.p/\y.p<ns)/\(0<=y.q/\y.q<nu)/\0<=y.f/\y.f<=2
def kG.len{ns nu:Nat}{L:List aH}(h:kG ns nu L):L.length<=ns*nu*3:=by
 have u:(L.map λy=>(y.p.toNat*nu+y.q.toNat)*3+y.f.toNat).Nodup:=by
  refine Jr.2 (JD ?_ h.nd);intro x y i j d O;apply d;have:=h.b x i;have:=h.b y j
  have G:x.f.toNat=y.f.toNat:=by omega
  have k:x.p.toNat*nu+x.q.toNat=y.p.toNat*nu+y.q.toNat:=by omega
  have D:x.q.toNat<nu:=by omega
  have F:y.q.toNat<nu:=by omega
  have o:x.p.toNat=y.p.toNat:=by
   have l:(x.p.toNat*nu+x.q.toNat) / nu=x.p.toNat:=by rw[Nat.add_comm,Nat.add_mul_div_right _ _ (by omega),Ac D];omega
   have n:(y.p.toNat*nu+y.q.toNat) / nu=y.p.toNat:=by rw[Nat.add_comm,Nat.add_mul_div_right _ _ (by omega),Ac F];omega
   rw[<- l,<- n,k]
  have I:x.q.toNat=y.q.toNat:=by rw[o]at k;omega
  cases x;cases y;simp only[aH.mk.injEq];simp only at *
  omega
 have z:(L.map λy=>(y.p.toNat*nu+y.q.toNat)*3+y.f.toNat) ⊆ List.range (ns*nu*3):=by
  intro x i;obtain⟨y,j,rfl⟩:=cA.1 i;have J:=h.b y j;have C:y.p.toNat+1<=ns:=by omega
  have:=jU nu C;rw[sT]at this;rw[yF];omega
 have:=List.Nodup.length_le_of_subset u z;simpa using this
def kG.ok{ns nu:Nat}{L:List aH}(h:kG ns nu L)(f:ns<=30)(i:nu<=30):∀ y∈L,y.ok:=λy d=>by have:=h.b y d;exact⟨⟨by omega,by omega⟩,⟨by omega,by omega⟩,by omega,by omega⟩
def kG.add{ns nu:Nat}{L:List aH}(h:kG ns nu L){x:aH}(k:(0<=x.p/\x.p<ns)/\(0<=x.q/\x.q<nu)/\0<=x.f/\x.f<=2):kG ns nu (dZ L x):=by
 unfold dZ;split
 .exact h
 .rename_i hm;refine⟨GS.2 ⟨h.nd,by simp,λa j b i=>?_⟩,λy d=>?_⟩
  .simp only[iT]at i;subst i;exact λe=>hm (e ▸ j)
  .obtain d|d:=dN.1 d
   .exact h.b y d
   .simp only[iT]at d;subst d;exact k
noncomputable def Hq(t u:GTrans)(k:Nat)(L:List aH)(j:Nat):List aH:=if t.ring.times (t.aM.getD k dT) (u.aM.getD j dT)=t.ring.zero then L else dZ L ⟨k,j,0⟩
noncomputable def qR(t u:GTrans)(L:List aH)(k j:Nat):List aH:=(List.range j).foldl (Hq t u k) L
noncomputable def jM(t u:GTrans)(L:List aH)(k:Nat):List aH:=(List.range k).foldl (λL k=>qR t u L k u.aM.length) L
def Lp(t u:GTrans)(L:List aH)(k j:Nat):qR t u L k (j+1)=Hq t u k (qR t u L k j) j:=by simp[qR,B7]
def Lo(t u:GTrans)(L:List aH)(k:Nat):jM t u L (k+1)=qR t u (jM t u L k) k u.aM.length:=by simp[jM,B7]
theorem Jh{t u:GTrans}{b d:Nat}{L:List aH}(h:kG b d L){k:Nat}(f:k<b):∀ {j:Nat},j<=d->kG b d (qR t u L k j)
 | 0,_=>h
 | j+1,i=>by
  rw[Lp];unfold Hq;split
  .exact Jh h f (by omega)
  .exact(Jh h f (by omega)).add ⟨⟨by simp,by simp;omega⟩,⟨by simp,by simp;omega⟩,by simp,by simp⟩
theorem Jg{t u:GTrans}{b d:Nat}{L:List aH}(h:kG b d L)(hu:u.aM.length<=d):∀ {k:Nat},k<=b->kG b d (jM t u L k)
 | 0,_=>h
 | k+1,f=>by rw[Lo];exact Jh (Jg h hu (by omega)) (by omega) hu
noncomputable def jL(t u:GTrans)(r:Nat)(K:List aE)(L:List aH)(w:GW)(k j:Nat):St :=
 ⟨[(0,.ptr 900000 0 0 0),(2,.p (.int .i64 k)),(3,.ptr 3 0 0 0),(10,.p (.sl (ens t.aM))),(11,.p (.int .i64 t.aM.length)),(12,.p (.int .i64 k)),(21,.p (.sl (ens u.aM))),(22,.p (.int .i64 u.aM.length)),(23,.p (.int .i64 j))],
  cZ t u r L K++[(3,[some ⟨8,[.p (enc w)]⟩]),(aO,[none])]⟩
def Oz:GC:=.cond (.t 42) [42] (.cX [⟨some 43,.mv (.t 0),none⟩,⟨some 44,.mv (.t 2),none⟩,⟨some 45,.mv (.t 4),none⟩,⟨some 46,.build [.p (.int .i64 0),.p (.int .i64 0),.p (.int .i64 0)] [(0,1,.t 44),(1,1,.t 45),(2,1,.c (.p (.int .i64 0)))],none⟩,⟨some 47,.call 70 [.t 43,.t 46],none⟩] [[],[],[4],[44,45],[43,46,47]])
 (.js)
def UW:GC:=.cX [⟨some 48,.dI .add (.t 23) (.c (.p (.int .i64 1))),none⟩,⟨some 23,.mv (.t 48),none⟩] [[4,23],[48]]
noncomputable def zz(t u:GTrans)(r:Nat)(K:List aE)(L:List aH)(w:GW)(k j:Nat)(b:Bool):St :=
 ⟨[(42,.p (.bool b)),(0,.ptr 900000 0 0 0),(2,.p (.int .i64 k)),(3,.ptr 3 0 0 0),(4,.p (.int .i64 j)),(10,.p (.sl (ens t.aM))),(11,.p (.int .i64 t.aM.length)),(12,.p (.int .i64 k)),(21,.p (.sl (ens u.aM))),(22,.p (.int .i64 u.aM.length)),(23,.p (.int .i64 j))],
  cZ t u r L K++[(3,[some ⟨8,[.p (enc w)]⟩]),(aO,[none])]⟩
theorem yhb{t u:GTrans}{r:Nat}{K:List aE}{L:List aH}(z:L.length<=100000)(G:∀ y∈L,y.ok){w:GW}{k j:Nat}(J:k<1000)(I:j<1000)(q:mL)(b:Bool)(R:Exit->St->Option FA->Prop)
  (hn:∀ s,aA s (jL t u r K (if b=true then dZ L ⟨k,j,0⟩else L) w k j)->R .normal s (some (gH q (some (dQ r (if b=true then dZ L ⟨k,j,0⟩else L)))))) :
  MR P 50 Oz.er (zz t u r K L w k j b) (some (gH q (some (dQ r L)))) R:=by
 have F:aH.ok ⟨k,j,0⟩:=⟨⟨by simp,by simp;omega⟩,⟨by simp,by simp;omega⟩,by simp,by simp⟩;have f:=nO L K;have p:=f.sa;have n:=f.sb;have C:=f.l;have x:=f.a;unfold Oz;cases b with
 | false =>
  refine MR.eY (t:=false) rfl (λh=>by cases h) λ_=>MR.pE (hn _ ?_);refine aA.cW [0,2,3,10,11,12,21,22,23] eF [((3,0),3)] ?_;simp[jL,zz,cZ,cS,bL,C,x];exact⟨p,n⟩
 | true =>
  refine MR.eY (t:=true) rfl (λ_=>?_) λh=>by cases h
  refine MR.mC (AU 4 [[],[],[4],[44,45]] ?_);have D:=TH (t:=t) (u:=u) (r:=r) (K:=K) z G F;simp only[cH]at hn;have d:=nO (dZ L ⟨k,j,0⟩) K;have i:=d.sa;have o:=d.l;simp[zz];refine eC.cons (IP D (DO.gH q _ _) rfl ?_ ?_ rfl ?_ ?_)
  .simp
  .simp[qA,St.site,look,cZ,cS,bL]
  .show(true&&dS eF (cZ t u r L K)&&true&&dS eF (cZ t u r (dZ L ⟨k,j,0⟩) K))=true;rw[show dS eF (cZ t u r L K)=true from f.hp t u r,show dS eF (cZ t u r (dZ L ⟨k,j,0⟩) K)=true from d.hp t u r];rfl
  .refine eC.nil (hn _ ?_);refine aA.cW [0,2,3,10,11,12,21,22,23] eF [((3,0),3)] ?_;simp[D6,sO,jL,cZ,cS,bL,o,x];exact⟨i,n⟩
def yct{t u:GTrans}{M:cQ t.ring}(MP:dB M){n:Nat}(hn:n+n+1<=M.lim){S d:Nat}(h1:S<=30)(h2:d<=30)(hI:∀ w∈t.aM,w.aJ t.ring/\M.mb n w)(hU:∀ w∈u.aM,w.aJ t.ring/\M.mb n w)
  (al:t.aM.length=S) (x:u.aM.length=d) {r:Nat} {K:List aE} {L:List aH} (hL:kG S d L) {k:Nat} (hk:k<S) (q:mL) {s:St} (i:aA s (jL t u r K L (t.aM.getD k dT) k 0)) :
  MR P 50 (GC.loop g.rx).er s (some (gH q (some (dQ r L)))) λF s B=>F=.exit 2/\B=some (gH q (some (dQ r (qR t u L k d))))/\aA s (jL t u r K (qR t u L k d) (t.aM.getD k dT) k d):=by
 refine MR.nL (I:=λm s B=>∃ j,j<=d/\m=d - j/\B=some (gH q (some (dQ r (qR t u L k j))))/\aA s (jL t u r K (qR t u L k j) (t.aM.getD k dT) k j)) d ⟨0,by omega,by omega,rfl,i⟩ ?_;rintro m s B ⟨j,hj,rfl,rfl,i⟩;refine MR.eE i ?_;have hT:=Jh (t:=t) (u:=u) hL hk hj;generalize V:(λ(F:Exit) (s:St) (B:Option FA)=>(F=.normal->∃ m,m<d - j/\∃ j,j<=d/\m=d - j/\B=some (gH q (some (dQ r (qR t u L k j))))/\aA s (jL t u r K (qR t u L k j) (t.aM.getD k dT) k j))/\(F ≠ .normal->F=.exit 2/\B=some (gH q (some (dQ r (qR t u L k d))))/\aA s (jL t u r K (qR t u L k d) (t.aM.getD k dT) k d)))=R;have r1:j<d->∀ s,aA s (jL t u r K (qR t u L k (j+1)) (t.aM.getD k dT) k (j+1))->R .normal s (some (gH q (some (dQ r (qR t u L k (j+1)))))):=λh s i=>by subst V;exact⟨λ_=>⟨d - (j+1),by omega,j+1,by omega,rfl,rfl,i⟩,λh=>absurd rfl h⟩
 have r2:j=d->∀ s,aA s (jL t u r K (qR t u L k j) (t.aM.getD k dT) k j)->R (.exit 2) s (some (gH q (some (dQ r (qR t u L k j))))):=λh s i=>by subst V;subst h;exact⟨λh=>(by cases h),λ_=>⟨rfl,rfl,i⟩⟩
 clear V i;have af:=Lp t u L k j;generalize qR t u L k j=o at *
 rw[af]at r1;have e1:=aZ j;have Q:=nO o K;have G:=Q.sa;have C:=Q.sb;have hl:=Q.l;have W:=Q.a;have ad:t.aM.getD k dT∈t.aM:=by rw[eV,dO (by omega)];exact bU _
 obtain⟨ci,mi⟩:=hI _ ad;by_cases z:j<d
 .have O:=r1 z;clear r1 r2;have f:j<u.aM.length:=by omega
  have X:u.aM.getD j dT=u.aM[j]:=by rw[eV,dO f];rfl
  obtain⟨U,mu⟩:=hU _ (bU f);unfold Hq at O;rw[X]at O;have ag:=MP.rS (n:=n) (by omega) ci U mi mu;have hz:=Ey t.ring (t.ring.times (t.aM.getD k dT) u.aM[j]) ((MP.pr hn (Eu ci U) (M.times ci U mi mu)).mono (by omega));generalize t.aM.getD k dT=w at *
  have y:=yhb (t:=t) (u:=u) (r:=r) (K:=K) (L:=o) (dM hT.len (by have:=mT h1 h2;omega)) (hT.ok h1 h2) (w:=w) (k:=k) (j:=j) (by omega) (by omega) q;unfold g.rx;refine MR.dG ?_;simp[jL,cZ,cS,bL,x,z];refine MR.cK (MR.eY (t:=true) (by simp) (λ_=>MR.pE ⟨λ_=>?_,λh=>absurd rfl h⟩) (λh=>by cases h));refine MR.cK (MR.kR ?_);refine MR.dG ?_;simp;refine bK f ?_;refine MR.dG ?_;rw[show(GC.cond (.t 42) [42] _ .js)=Oz from rfl,show(GC.cX [⟨some 48,.dI .add (.t 23) (.c (.p (.int .i64 1))),none⟩,⟨some 23,.mv (.t 48),none⟩] [[4,23],[48]])=UW from rfl];simp;refine aW ag ?_;simp;refine aW hz ?_;simp;generalize hb:(!decide (t.ring.times w u.aM[j]=t.ring.zero))=b;refine MR.eE (st1:=zz t u r K o w k j b) (aA.cW [42,0,2,3,4,10,11,12,21,22,23] eF [((3,0),3)] ?_) (y b _ λs i=>⟨λ_=>?_,λh=>absurd rfl h⟩)
  .simp[zz,cZ,cS,bL,hl,W,x];exact⟨G,C⟩
  refine MR.eE i ?_;unfold UW;have he:(if b=true then dZ o ⟨k,j,0⟩else o)=(if t.ring.times w u.aM[j]=t.ring.zero then o else dZ o ⟨k,j,0⟩):=by subst hb;by_cases h:t.ring.times w u.aM[j]=t.ring.zero<;>simp[h]
  rw[he];generalize (if t.ring.times w u.aM[j]=t.ring.zero then o else dZ o ⟨k,j,0⟩)=L2 at *
  have D:=nO L2 K;have J:=D.sa;have Y:=D.l;refine MR.cE ?_;simp[jL,cZ,cS,bL,e1];refine O _ (aA.cW [0,2,3,10,11,12,21,22,23] eF [((3,0),3)] ?_);simp[jL,cZ,cS,bL,Y,W];exact⟨J,C⟩
 .have O:=r2 (by omega);generalize t.aM.getD k dT=w at *
  unfold g.rx;refine MR.dG ?_;simp[jL,cZ,cS,bL,x,z];refine MR.cK (MR.eY (t:=false) (by simp) (λh=>(by cases h)) (λ_=>MR.uW ⟨λh=>(by cases h),λ_=>O _ ?_⟩));refine aA.cW [0,2,3,10,11,12,21,22,23] eF [((3,0),3)] ?_;simp[jL,cZ,cS,bL,hl,W,x];exact⟨G,C⟩
noncomputable def nG(t u:GTrans)(r:Nat)(K:List aE)(L:List aH)(k:Nat):St :=
 ⟨[(0,.ptr 900000 0 0 0),(10,.p (.sl (ens t.aM))),(11,.p (.int .i64 t.aM.length)),(12,.p (.int .i64 k))],cZ t u r L K++[(aO,[none])]⟩
def ycs{t u:GTrans}{M:cQ t.ring}(MP:dB M){n:Nat}(hn:n+n+1<=M.lim){b F:Nat}(h1:b<=30)(h2:F<=30)(hI:∀ w∈t.aM,w.aJ t.ring/\M.mb n w)(hU:∀ w∈u.aM,w.aJ t.ring/\M.mb n w)
  (f:t.aM.length=b) (z:u.aM.length=F) {r:Nat} {K:List aE} {L:List aH} (hL:kG b F L) (q:mL) {s:St} (d:aA s (nG t u r K L 0)) :
  MR P 50 (GC.loop g.ry).er s (some (gH q (some (dQ r L)))) λp s B=>p=.exit 0/\B=some (gH q (some (dQ r (jM t u L b))))/\aA s (nG t u r K (jM t u L b) b):=by
 refine MR.nL (I:=λm s B=>∃ k,k<=b/\m=b - k/\B=some (gH q (some (dQ r (jM t u L k))))/\aA s (nG t u r K (jM t u L k) k)) b ⟨0,by omega,by omega,rfl,d⟩ ?_;rintro m s B ⟨k,hk,rfl,rfl,d⟩;refine MR.eE d ?_;have hT:=Jg (t:=t) (u:=u) hL (by omega:u.aM.length<=F) hk;generalize O:(λ(p:Exit) (s:St) (B:Option FA)=>(p=.normal->∃ m,m<b - k/\∃ k,k<=b/\m=b - k/\B=some (gH q (some (dQ r (jM t u L k))))/\aA s (nG t u r K (jM t u L k) k))/\(p ≠ .normal->p=.exit 0/\B=some (gH q (some (dQ r (jM t u L b))))/\aA s (nG t u r K (jM t u L b) b)))=R;have W:k<b->∀ s,aA s (nG t u r K (jM t u L (k+1)) (k+1))->R .normal s (some (gH q (some (dQ r (jM t u L (k+1)))))):=λh s d=>by subst O;exact⟨λ_=>⟨b - (k+1),by omega,k+1,by omega,rfl,rfl,d⟩,λh=>absurd rfl h⟩
 have r2:k=b->∀ s,aA s (nG t u r K (jM t u L k) k)->R (.exit 0) s (some (gH q (some (dQ r (jM t u L k))))):=λh s d=>by subst O;subst h;exact⟨λh=>(by cases h),λ_=>⟨rfl,rfl,d⟩⟩
 clear O d;have V:=Lo t u L k;generalize jM t u L k=G at *
 rw[V,z]at W;have e1:=aZ k;have J:=nO G K;have C:=J.sa;have o:=J.sb;have Y:=J.l;have Q:=J.a;by_cases i:k<b
 .have X:=W i;clear W r2;have j:k<t.aM.length:=by omega
  have y:=λs (d:aA s (jL t u r K G (t.aM.getD k dT) k 0))=>yct MP hn h1 h2 hI hU f z (r:=r) (K:=K) (L:=G) hT i q d;have S:t.aM.getD k dT=t.aM[k]:=by rw[eV,dO j];rfl
  rw[S]at y;generalize qR t u G k F=L2 at *
  have x:=nO L2 K;have D:=x.sa;have U:=x.l;unfold g.ry;refine MR.dG ?_;simp[nG,cZ,cS,bL,f,i];refine MR.cK (MR.eY (t:=true) (by simp) (λ_=>MR.pE ⟨λ_=>?_,λh=>absurd rfl h⟩) (λh=>by cases h));refine MR.cK (MR.kR ?_);refine MR.dG ?_;simp;refine bK j ?_;refine MR.dG ?_;simp;refine MR.kR (MR.mono (y _ ?_) ?_)
  .refine aA.cW [0,2,3,10,11,12,21,22,23] eF [((3,0),3)] ?_;simp[jL,cZ,cS,bL,Y,Q,f];exact⟨C,o⟩
  .rintro p s B ⟨rfl,rfl,d⟩;refine⟨λ_=>MR.eE d (MR.cE ?_),λh=>absurd rfl h⟩;simp[jL,cZ,cS,bL,e1];refine X _ (aA.cW [0,10,11,12] eF [] ?_);simp[nG,cZ,cS,bL,U,Q];exact⟨D,o⟩
 .have X:=r2 (by omega);unfold g.ry;refine MR.dG ?_;simp[nG,cZ,cS,bL,f,i];refine MR.cK (MR.eY (t:=false) (by simp) (λh=>(by cases h)) (λ_=>MR.uW ⟨λh=>(by cases h),λ_=>X _ ?_⟩));refine aA.cW [0,10,11,12] eF [] ?_;simp[nG,cZ,cS,bL,Y,Q,f];exact⟨C,o⟩
def WW{t u:GTrans}{M:cQ t.ring}(x:dB M){n:Nat}(hn:n+n+1<=M.lim){b o:Nat}(y:b<=30)(z:o<=30)(C:∀ w∈t.aM,w.aJ t.ring/\M.mb n w)(F:∀ w∈u.aM,w.aJ t.ring/\M.mb n w)
  (h:t.aM.length=b) (i:u.aM.length=o) {r:Nat} {K:List aE} {L:List aH} (D:kG b o L) :
  kU P 65 [.ptr 900000 0 0 0] (cZ t u r L K) (some (dQ r L)) (.av (.bM [])) (cZ t u r (jM t u L b) K) (some (dQ r (jM t u L b))):=by
 have f:=nO L K;have j:=f.sa;have k:=f.sb;have I:=f.l;have G:=f.a;have d:=nO (jM t u L b) K;have p:=d.sa;have J:=d.l;refine kU.fZ c.na (by simp) rfl (by simp[cZ,cS,fU]) rfl ?_ λq=>?_
 .show(true&&dS eF (cZ t u r (jM t u L b) K))=true;rw[show dS eF (cZ t u r (jM t u L b) K)=true from d.hp t u r];rfl
 unfold g.na;refine MR.dG ?_;simp[tQ,cZ,cS,bL];refine MR.kR (MR.mono (ycs x hn y z C F h i (r:=r) (K:=K) D q (aA.cW [0,10,11,12] eF [] ?_)) ?_)
 .simp[nG,cZ,cS,bL,I,G];exact⟨j,k⟩
 rintro Q s B ⟨rfl,rfl,O⟩;refine⟨rfl,.inr rfl,_,O,[],rfl,rfl,?_⟩;simp[qA,St.site,look,nG,cZ,cS,bL,aO]
def mA(x:aH)(L:List aH):Nat:=(iE x L 0).getD 0
noncomputable def vP(s:Nat)(X:List aH × List aE)(m:eS):List aH × List aE:=(dZ X.1 m.t,X.2++[⟨s,m.i,m.o,mA m.t (dZ X.1 m.t),m.w⟩])
noncomputable def iY(s:Nat)(X:List aH × List aE)(ms:List eS):List aH × List aE:=ms.foldl (vP s) X
def H4(L:List aH)(x:aH):x∈dZ L x:=by unfold dZ;split<;>simp_all
theorem KT{x:aH}{L:List aH}(h:x∈L):iE x L 0=some (mA x L):=by
 unfold mA;cases b:iE x L 0 with
 | none=>exact absurd h (CX.1 b)
 | some j=>rfl
def yab(s:Nat)(X:List aH × List aE)(ms:List eS)(m:eS):iY s X (ms++[m])=vP s (iY s X ms) m:=by simp[iY]
theorem SP(s:Nat)(ms:List eS):∀ (X:List aH × List aE),(iY s X ms).2.length=X.2.length+ms.length:=by
 induction ms with
 | nil=>intro X;rfl
 | cons m ms b =>
  intro X;have:=b (vP s X m);simp only[iY,C8]at this ⊢;rw[this];simp[vP];omega
theorem Ut{b d s:Nat}{ms:List eS}(i:∀ m∈ms,(0<=m.t.p/\m.t.p<b)/\(0<=m.t.q/\m.t.q<d)/\0<=m.t.f/\m.t.f<=2):∀ {X:List aH × List aE},kG b d X.1->kG b d (iY s X ms).1:=by
 induction ms with
 | nil=>intro X h;exact h
 | cons m ms k =>
  intro X h;exact k (λy j=>i y (by simp[j])) (X:=vP s X m) (h.add (i m (by simp)))
noncomputable def iW(t u:GTrans)(r:Nat)(L:List aH)(K:List aE)(s:Nat)(ms:List eS)(j:Nat):St :=
 ⟨[(0,.ptr 900000 0 0 0),(3,.p (.int .i64 s)),(37,.own 34 0 0 ms.length),(38,.p (.int .i64 ms.length)),(39,.p (.int .i64 j))],cZ t u r L K++[(34,[some ⟨13,aK ms⟩]),(aO,[none])]⟩
noncomputable def sZ(t u:GTrans)(r:Nat)(L:List aH)(K:List aE)(s:Nat)(ms:List eS)(j:Nat)(m:eS):St :=
 ⟨[(0,.ptr 900000 0 0 0),(3,.p (.int .i64 s)),(6,.ptr 6 0 0 0),(37,.own 34 0 0 ms.length),(38,.p (.int .i64 ms.length)),(39,.p (.int .i64 j))],cZ t u r L K++[(34,[some ⟨13,aK ms⟩]),(6,[some ⟨13,[.p (enc m)]⟩]),(aO,[none])]⟩
def yez{t u:GTrans}{r:Nat}{K:List aE}{L:List aH}(n:L.length<=100000)(C:∀ y∈L,y.ok){s:Nat}{ms:List eS}{j:Nat}{m:eS}(z:m.t.ok)(q:mL)(R:Exit->St->Option FA->Prop)
  (hn:∀ k,aA k (sZ t u r (dZ L m.t) K s ms j m)->R .normal k (some (gH q (some (dQ r (dZ L m.t)))))) :
  MR P 78 JV.er (sZ t u r L K s ms j m) (some (gH q (some (dQ r L)))) R:=by
 have d:=nO L K;have x:=d.sa;have i:=d.sb;have D:=d.l;have o:=d.a;have b:=nO (dZ L m.t) K;have f:=b.sa;have h:=b.l;have p:=TH (t:=t) (u:=u) (r:=r) (K:=K) n C z;unfold JV;refine MR.mC (AU 3 [[],[],[44]] ?_);simp[sZ,cZ,cS,bL];refine eC.cons (IP p (DO.gH q _ _) rfl ?_ ?_ rfl ?_ ?_)
 .simp
 .simp[qA,St.site,look,cZ,cS,bL]
 .show(true&&dS eF (cZ t u r L K)&&true&&dS eF (cZ t u r (dZ L m.t) K))=true;rw[show dS eF (cZ t u r L K)=true from d.hp t u r,show dS eF (cZ t u r (dZ L m.t) K)=true from b.hp t u r];rfl
 .refine eC.nil (hn _ ?_);refine aA.cW [0,3,6,37,38,39] eF [((34,0),34),((6,0),6)] ?_;simp[D6,sO,sZ,cZ,cS,bL,h,o];exact⟨f,i⟩
theorem ZT{t u:GTrans}{r:Nat}{K:List aE}{L:List aH}(ok:∀ y∈L,y.ok){s:Nat}{ms:List eS}{j:Nat}{m:eS}(hm:m.t∈L)(hx:m.t.ok)(hK:K.length<=100000000)(q:mL) :
  MR P 78 JW.er (sZ t u r L K s ms j m) (some (gH q (some (dQ r L)))) λex s' B=>ex=.normal/\B=some (yY q (dQ r L))/\aA s' (iW t u r L (K++[⟨s,m.i,m.o,mA m.t L,m.w⟩]) s ms j):=by
 have J:=nO L K;have ad:=J.sa;have Q:=J.sb;have hl:=J.l;have ha:=J.a;have k:=MQ m.t L 0;rw[<- List.range_eq_range',KT hm]at k;have d:oE [.int .i64 m.t.p,.int .i64 m.t.q,.int .i64 m.t.f] (ens L) (kL L.length)=some (.int .i64 (mA m.t L)):=k;clear k;have z:=λσ (h:∀ g,σ 900001 g=(900001,g))=>O6 (σ := σ) h L;have C:=λσ=>Tg σ 3 L;have o2:=PK 900002 K (⟨s,m.i,m.o,mA m.t L,m.w⟩:aE);have o3:=Pv 12 K (⟨s,m.i,m.o,mA m.t L,m.w⟩:aE);unfold JW;simp only[sZ,cZ,cS];refine MR.UU ?_;refine MR.UT (s:=900000) (g:=0) (sz:=19) (i:=16) rfl rfl ?_;refine MR.cE ?_;have F:aK [(⟨s,m.i,m.o,mA m.t L,m.w⟩:aE)]=[.p (.agg [.int .i64 s,.int .i64 m.i,.int .i64 m.o,.int .i64 (mA m.t L),.bool m.w.q.neg,.sl (ens m.w.q.num),.sl (ens m.w.q.den),.int .i64 m.w.cost,.bool m.w.inf,.int .u64 m.w.set.toNat,.sl (ens m.w.aR),.sl (ens m.w.parts)])]:=rfl;unfold iW cZ cS;rw[o2,o3,sR,F];clear o2 o3 F;generalize dH 900001 L=lq at *
 generalize eK 3 L=SA at *
 generalize hM:aK ms=W;have x:∀ σ,gC σ W=W:=λσ=>by rw[<- hM,H3]
 have D:∀ n,va [lq,.own 68 0 0 n]=none:=λn=>by cases lq<;>rfl
 have G:∀ y∈ens L,sA [.i64,.i64,.i64] y=true:=MA ok;cases K with
 | nil =>
  simp[bL,dQ,d,D,show dH 900002 ([]:List aE)=.nil from rfl,show eK 12 ([]:List aE)=[] from rfl];refine⟨⟨Eo hx,G⟩,?_⟩;refine(aA.Be (s:=900000) (g:=0) (sz:=19) (i:=16) rfl rfl).trans (FH [0,3,37,38,39] [(900000,[(900000,0)]),(900001,[(900001,0)]),(900002,[(900002,0),(68,0)]),(34,[(34,0)])] ?_ (λσ=>σ 900000 0=(900000,0) /\ σ 68 0=(900002,0)/\(∀ g,σ 900001 g=(900001,g)) /\ σ 34 0=(34,0)) ?_ ?_)
  .simp[AE,EP,xK,fU,aO,CU,St.setObj]
  .simp[nS,uA,pQ,St.site,look,St.setObj]
  .rintro σ ⟨R,S,U,V⟩;simp[sL,mJ,sub,iM,gC,St.get,look,St.site,St.setObj,aO,R,S,V,z σ U,C σ,x σ]
 | cons y l =>
  generalize b:y::l=K at *
  have I:K.length=l.length+1:=by rw[<- b];rfl
  have X:dH 900002 K=.own 900002 l.length 0 (l.length+1):=by rw[<- b];rfl
  have Y:eK 12 K=List.replicate l.length none++[some ⟨12,aK K⟩]:=by rw[<- b];rfl
  have e3:(aK K).length=l.length+1:=by rw[vE,I]
  rw[X,Y,I];have O:∀ σ,gC σ (aK K)=aK K:=λσ=>H3 σ K;clear X Y b Q;generalize aK K=KM at *
  simp[bL,dQ,d,D,e3];refine⟨⟨Eo hx,G⟩,by omega,?_⟩;refine(aA.Be (s:=900000) (g:=0) (sz:=19) (i:=16) rfl rfl).trans (FH [0,3,37,38,39] [(900000,[(900000,0)]),(900001,[(900001,0)]),(900002,[(900002,0),(68,0)]),(34,[(34,0)])] ?_ (λσ=>σ 900000 0=(900000,0) /\ σ 68 0=(900002,l.length+1)/\(∀ g,σ 900001 g=(900001,g)) /\ σ 34 0=(34,0)) ?_ ?_)
  .simp[AE,EP,xK,fU,aO,CU,St.setObj]
  .simp[nS,uA,pQ,St.site,look,St.setObj]
  .rintro σ ⟨R,S,U,V⟩;simp[sL,mJ,sub,iM,gC,P2,St.get,look,St.site,St.setObj,aO,R,S,V,z σ U,C σ,x σ,O σ];rw[Jv,sI];rfl
def yfy(x:eS):(enc x).cN=true:=by have h:=HN x.w;obtain⟨i,o,t,w⟩:=x;cases w;simp[PV.cN,jR]at h ⊢;exact h
def XH(t u:GTrans)(r:Nat)(L:List aH)(K:List aE)(s:Nat)(ms:List eS)(j:Nat):BI (iW t u r L K s ms j)=true:=by have h:=OZ t u r L K;have b:rL (aK ms)=true:=Mc (AW yfy ms);unfold BI at h ⊢;simp only[List.all_nil,GN]at h;unfold iW;simp only[List.all_append];rw[h];simp[xJ,PV.cN,b,aO]
theorem Us:g.qq=.seq (.cX [⟨some 40,.dI .lss (.t 39) (.t 38),none⟩] []) (.seq (.cond (.t 40) [40] (.js) (.ext 2)) (.seq (.bX 3 (.seq NW (.seq JV JW))) NV)):=rfl
def yey{t u:GTrans}{ns nu:Nat}(h1:ns<=30)(h2:nu<=30){r:Nat}{L:List aH}{K:List aE}(hL:kG ns nu L){s:Nat}{ms:List eS}(hm:∀ m∈ms,(0<=m.t.p/\m.t.p<ns)/\(0<=m.t.q/\m.t.q<nu)/\0<=m.t.f/\m.t.f<=2)
  (hs:s<=100000) (aq:ms.length<=1000000) (hK:K.length+ms.length<=100000000) (q:mL) {st:St} (k:aA st (iW t u r L K s ms 0)) :
  MR P 78 (GC.loop g.qq).er st (some (gH q (some (dQ r L)))) λD b B=>D=.exit 2/\B=some (gH q (some (dQ r (iY s (L,K) ms).1)))/\aA b (iW t u r (iY s (L,K) ms).1 (iY s (L,K) ms).2 s ms ms.length):=by
 refine MR.nL (I:=λn b B=>∃ j,j<=ms.length/\n=ms.length - j/\B=some (gH q (some (dQ r (iY s (L,K) (ms.take j)).1)))/\aA b (iW t u r (iY s (L,K) (ms.take j)).1 (iY s (L,K) (ms.take j)).2 s ms j)) ms.length ⟨0,by omega,by omega,rfl,k⟩ ?_;rintro n b B ⟨j,hj,rfl,rfl,k⟩;refine MR.eE k ?_;have hT:=Ut (s:=s) (ms:=ms.take j) (λm hx=>hm m (iC hx)) (X:=(L,K)) hL;have G:=SP s (ms.take j) (L,K);rw[fY]at G;generalize hR:(λ(D:Exit) (b:St) (B:Option FA)=>(D=.normal->∃ n,n<ms.length - j/\∃ j,j<=ms.length/\n=ms.length - j/\B=some (gH q (some (dQ r (iY s (L,K) (ms.take j)).1)))/\aA b (iW t u r (iY s (L,K) (ms.take j)).1 (iY s (L,K) (ms.take j)).2 s ms j))/\(D ≠ .normal->D=.exit 2/\B=some (gH q (some (dQ r (iY s (L,K) ms).1)))/\aA b (iW t u r (iY s (L,K) ms).1 (iY s (L,K) ms).2 s ms ms.length)))=R;have r1:j<ms.length->∀ b,aA b (iW t u r (iY s (L,K) (ms.take (j+1))).1 (iY s (L,K) (ms.take (j+1))).2 s ms (j+1))->R .normal b (some (gH q (some (dQ r (iY s (L,K) (ms.take (j+1))).1)))):=λh b k=>by subst hR;exact⟨λ_=>⟨ms.length - (j+1),by omega,j+1,by omega,rfl,rfl,k⟩,λh=>absurd rfl h⟩
 have r2:j=ms.length->∀ b,aA b (iW t u r (iY s (L,K) (ms.take j)).1 (iY s (L,K) (ms.take j)).2 s ms j)->R (.exit 2) b (some (gH q (some (dQ r (iY s (L,K) (ms.take j)).1)))):=λh b k=>by subst hR;rw[h,kK]at k ⊢;exact⟨λh=>(by cases h),λ_=>⟨rfl,rfl,k⟩⟩
 clear hR k;have e1:=aZ j;have Y:∀ h:j<ms.length,iY s (L,K) (ms.take (j+1))=vP s (iY s (L,K) (ms.take j)) ms[j]:=λh=>by rw[ed h,yab]
 generalize iY s (L,K) (ms.take j)=X at *
 obtain⟨C,z⟩:=X;simp only at hT G r2;have bk:=nO C z;have S:=bk.sa;have V:=bk.sb;have hl:=bk.l;have ha:=bk.a;by_cases d:j<ms.length
 .have r3:=r1 d;rw[Y d]at r3;clear r1 r2 Y;simp only[vP]at r3;obtain⟨b1,b2,b3⟩:=hm _ (bU d);have Q:(ms[j]).t.ok:=⟨⟨by omega,by omega⟩,⟨by omega,by omega⟩,by omega,by omega⟩;have ad:=hT.add ⟨b1,b2,b3⟩;have ap:=mT h1 h2;have O:=H4 C (ms[j]).t;have hg:(aK ms)[j]?=some (.p (enc ms[j])):=by simp[-gW,aK,ens,d]
  have al:(aK ms).length=ms.length:=vE ms;generalize ms[j]=m at *
  have hf:=yez (t:=t) (u:=u) (r:=r) (K:=z) (L:=C) (dM hT.len (by omega)) (hT.ok h1 h2) (s:=s) (ms:=ms) (j:=j) (m:=m) Q q;have J:=ZT (t:=t) (u:=u) (r:=r) (K:=z) (L:=dZ C m.t) (ad.ok h1 h2) (s:=s) (ms:=ms) (j:=j) O Q (by omega) q;generalize dZ C m.t=F at *
  rw[Us];refine MR.dG ?_;simp[iW,cZ,cS,bL,d];refine MR.cK (MR.eY (t:=true) (by simp) (λ_=>MR.pE ⟨λ_=>?_,λh=>absurd rfl h⟩) (λh=>by cases h));refine MR.cK (MR.kR ?_);refine MR.dG ?_;unfold NW;generalize y:aK ms=AM at *
  simp[al,d];rw[lM];refine⟨_,hg,?_⟩;simp;refine MR.cK (MR.eE (st1:=sZ t u r C z s ms j m) (aA.cW [0,3,6,37,38,39] eF [((34,0),34),((6,0),6)] ?_) (hf _ λb k=>⟨λ_=>MR.eE k (MR.mono J ?_),λh=>absurd rfl h⟩))
  .simp[sZ,cZ,cS,bL,hl,ha,y];exact⟨⟨S,V⟩,by rw[<- y];exact FQ _ _ _⟩
  .rintro D au B ⟨rfl,rfl,ao⟩;refine⟨λ_=>MR.eE ao (MR.Dl (XH t u r _ _ s ms j) (AW Im F) (Md F.length) (MR.cE ?_)),λh=>absurd rfl h⟩;have x:=nO F (z++[{ f:=s,i:=m.i,o:=m.o,t:=(mA m.t F),w:=m.w }]);generalize z++[({ f:=s,i:=m.i,o:=m.o,t:=(mA m.t F),w:=m.w }:aE)]=K2 at *
   have U:=x.sa;have W:=x.sb;have ag:=x.l;have af:=x.a;simp[NV,iW,cZ,cS,bL,e1];refine r3 _ (aA.cW [0,3,37,38,39] eF [((34,0),34)] ?_);simp[iW,cZ,cS,bL,ag,af,y];exact⟨⟨U,W⟩,by rw[<- y];exact FQ _ _ _⟩
 .have r3:=r2 (by omega);rw[Us];refine MR.dG ?_;simp[iW,cZ,cS,bL,d];refine MR.cK (MR.eY (t:=false) (by simp) (λh=>(by cases h)) (λ_=>MR.uW ⟨λh=>(by cases h),λ_=>r3 _ ?_⟩));refine aA.cW [0,3,37,38,39] eF [((34,0),34)] ?_;simp[iW,cZ,cS,bL,hl,ha];exact⟨S,V⟩
noncomputable def vY(t u:GTrans)(s:Nat)(X:List aH × List aE):List aH × List aE:=iY s X (bW eS.key (sK t u (X.1.getD s ⟨0,0,0⟩)))
noncomputable def dL(t u:GTrans)(X:List aH × List aE):Nat->List aH × List aE
 | 0=>X
 | s+1=>if s<(dL t u X s).1.length then vY t u s (dL t u X s)else dL t u X s
theorem Qi{t u:GTrans}{X:List aH × List aE}{s:Nat}(h:(dL t u X s).1.length<=s):∀ m,dL t u X (s+m)=dL t u X s
 | 0=>rfl
 | m+1=>by have b:=Qi h m;show(if s+m<(dL t u X (s+m)).1.length then vY t u (s+m) (dL t u X (s+m))else dL t u X (s+m))=_;rw[b,bD (by omega)]
structure vq (t u:GTrans) (ns nu:Nat):Prop where
 t:∀ x∈t.aD,0<=x.t/\x.t<(ns:Int)
 u:∀ x∈u.aD,0<=x.t/\x.t<(nu:Int)
def Ud{t u:GTrans}{i j:Nat}(h:vq t u i j){a:aH}(k:(0<=a.p/\a.p<i)/\(0<=a.q/\a.q<j)/\0<=a.f/\a.f<=2):∀ m∈sK t u a,(0<=m.t.p/\m.t.p<i)/\(0<=m.t.q/\m.t.q<j)/\0<=m.t.f/\m.t.f<=2:=by
 intro m hm;have hm:=(kI.1 hm).1;unfold tL at hm;obtain hm|hm:=dN.1 hm
 .obtain⟨x,d,hm⟩:=kC.1 hm;have d:=h.t x (kI.1 d).1;unfold qP at hm;obtain hm|hm:=dN.1 hm
  .unfold wW at hm;split at hm
   .rw[iT]at hm;subst hm;exact⟨d,k.2.1,by simp,by simp⟩
   .cases hm
  .obtain⟨y,b,hm⟩:=kC.1 hm;have b:=h.u y (kI.1 b).1;unfold pZ at hm;split at hm
   .rw[iT]at hm;subst hm;exact⟨d,b,by simp,by simp⟩
   .cases hm
 .obtain⟨y,b,hm⟩:=kC.1 hm;have b:=h.u y (kI.1 b).1;unfold rD at hm;split at hm
  .rw[iT]at hm;subst hm;exact⟨k.1,b,by simp,by simp⟩
  .cases hm
def H0{α : Type}(key : α -> List Int)(l:List α):(bW key l).length=l.length:=(gB l).2.1
theorem FT{t u:GTrans}{i j B:Nat}(h:vq t u i j)(k:∀ a,(tL t u a).length<=B){X:List aH × List aE}(n:kG i j X.1)(l:X.2=[]):∀ s,kG i j (dL t u X s).1/\(dL t u X s).2.length<=s*B
 | 0=>⟨n,by simp[dL,l]⟩
 | s+1=>by
  obtain⟨f,y⟩:=FT h k n l s;simp only[dL];have x:s*B<=(s+1)*B:=jU _ (by omega);split
  .rename_i d;have o:(dL t u X s).1.getD s ⟨0,0,0⟩∈(dL t u X s).1:=by rw[eV,dO d];exact bU d
   unfold vY;generalize (dL t u X s).1.getD s ⟨0,0,0⟩=a at *
   refine⟨Ut (λm p=>Ud h (f.b _ o) m ((gB _).2.2 m |>.1 p)) f,?_⟩;rw[SP,H0,Ah];have:(sK t u a).length<=B:=dM (kB _ _) (k a);omega
  .exact⟨f,by omega⟩
def yc3(L:List aH)(x:aH):L.length<=(dZ L x).length:=by unfold dZ;split<;>simp
theorem ZS(s:Nat)(ms:List eS):∀ X:List aH × List aE,X.1.length<=(iY s X ms).1.length:=by
 induction ms with
 | nil=>intro X;exact dE _
 | cons m ms b=>intro X;exact dM (yc3 X.1 m.t) (b (vP s X m))
noncomputable def iX(t u:GTrans)(r:Nat)(X:List aH × List aE)(s:Nat):St:=⟨[(0,.ptr 900000 0 0 0),(3,.p (.int .i64 s))],cZ t u r X.1 X.2++[(aO,[none])]⟩
theorem ZR:g.te=.seq (.seq Ff (.cond (.t 23) [23] (.js) (.ext 0))) (.seq (.bX 1 (.seq JZ (.seq JY (.seq JX (.bX 2 (.loop g.qq)))))) NX):=rfl
theorem ye1{t u:GTrans}{r s:Nat}{L:List aH}{K:List aE}(x:L.length<=4000)(hs:s<=L.length)(A:FA)(R:Exit->St->Option FA->Prop)
  (h:R (if s<L.length then .normal else .exit 0) (iX t u r (L,K) s) (some A)) :
  MR P 78 (GC.seq Ff (.cond (.t 23) [23] (.js) (.ext 0))).er (iX t u r (L,K) s) (some A) R:=by
 have k:=nO L K;have p:=k.sb;have z:=k.a;have C:∀ st',aA st' (iX t u r (L,K) s)->R (if s<L.length then .normal else .exit 0) st' (some A)->True:=λ_ _ _=>trivial;refine MR.cE ?_;cases L with
 | nil =>
  have j:s=0:=by simpa using hs
  subst j;simp[Ff,iX,cZ,cS,bL,show dH 900001 ([]:List aH)=.nil from rfl];exact h
 | cons y l =>
  generalize d:y::l=L at *
  have o:L.length=l.length+1:=by rw[<- d];rfl
  have n:dH 900001 L=.own 900001 l.length 0 (l.length+1):=by rw[<- d];rfl
  by_cases f:s<L.length
  .have b:(s:Int)<(l.length:Int)+1:=by omega
   have i:(l.length:Int)+1<=4096:=by omega
   rw[aX f]at h;simp[Ff,iX,cZ,cS,bL,n,b,i]at h ⊢;exact h
  .have b:¬ (s:Int)<(l.length:Int)+1:=by omega
   rw[bD f]at h;simp[Ff,iX,cZ,cS,bL,n,b]at h ⊢;exact h
def ye2{t u:GTrans}{r s:Nat}{L:List aH}{K:List aE}{d:List eS}(F:s<L.length)(hL:L.length<=4000)(X:d.length<=1000000)
  (j:kU P 66 [.ptr 900000 0 0 0,.p (enc (L.getD s ⟨0,0,0⟩))] (cZ t u r L K) none (.fr 13 (ens d)) (cZ t u r L K) none) (A:FA) (R:Exit->St->Option FA->Prop)
  (h:∀ st',aA st' (iW t u r L K s (bW eS.key d) 0)->MR P 78 (GC.bX 2 (.loop g.qq)).er st' (some A) R) :
  MR P 78 (GC.seq JZ (.seq JY (.seq JX (.bX 2 (.loop g.qq))))).er (iX t u r (L,K) s) (some A) R:=by
 have f:=nO L K;have o:=f.sa;have G:=f.sb;have hl:=f.l;have Y:=f.a;have hg:(aK L)[s]?=some (.p (enc (L.getD s ⟨0,0,0⟩))):=by simp[-gW,aK,ens,F]
 have C:=yem d X;have z:=H0 eS.key d;generalize bW eS.key d=S at *
 generalize L.getD s ⟨0,0,0⟩=a at *
 obtain⟨l,b⟩:∃ l:Nat,L.length=l+1:=⟨L.length - 1,by omega⟩;have Q:dH 900001 L=.own 900001 l 0 (l+1):=by
  cases L with
  | nil=>simp at b
  | cons y I =>
   simp only[qH]at b;have:I.length=l:=by omega
   subst this;rfl
 have U:eK 3 L=List.replicate l none++[some ⟨3,aK L⟩]:=by
  cases L with
  | nil=>simp at b
  | cons y I =>
   simp only[qH]at b;have:I.length=l:=by omega
   subst this;rfl
 have V:(aK L).length=l+1:=by rw[vE,b]
 have J:(s:Int)<(l:Int)+1:=by omega
 have i:s<l+1:=by omega
 refine MR.dG ?_;have k:dS eF (cZ t u r L K)=true:=f.hp t u r;have n:vU eF (.fr 13 (ens d))=true:=by
  have W:=jF d 13 rfl;have h3:(ens d).length<=eL:=by simp[-gW,ens,eL];omega
  simp[vU];exact λx hx=>by simpa using List.all_eq_true.1 W x hx
 simp only[iX,cZ,cS,Q,U,iW]at h j hl o k ⊢;generalize aK L=O at *
 simp[JZ,bL,V,i];rw[lM];refine⟨_,hg,?_⟩;simp;refine yg7 j rfl ?_ rfl ?_ ?_
 .simp[qA,St.site,look,bL]
 .show(true&&dS eF _&&vU eF (.fr 13 (ens d))&&dS eF _)=true;rw[k,n];rfl
 simp[sO];refine MR.dG ?_;simp[JY];refine qV C (by simp) rfl rfl (by simp) (by simp) (by simp[z]) rfl (jF _ _ rfl) (cells_one Kz _) (by simp) ?_;simp;refine MR.dG ?_;simp[JX];refine h _ (aA.cW [0,3,37,38,39] eF [((34,0),34)] ?_);generalize List.replicate l none++[some (⟨3,O⟩:bI)]=SA at *
 have D:∀ x∈eK 12 K,vT eF x=true:=G;generalize eK 12 K=SB at *
 generalize dH 900002 K=aq at *
 simp[z,aO,bL,Y];exact⟨o,D⟩
end Go.Ab
namespace Go.Ab
open Enc (enc)
structure kH where
 m:eS
instance:Enc kH:=⟨λx=>.agg ([.int .i64 x.m.t.p,.int .i64 x.m.t.q,.int .i64 x.m.t.f,.int .i64 x.m.i,.int .i64 x.m.o]++x.m.w.cl),13,by decide,λ_=>rfl⟩
@[simp] theorem yoe(x:kH):enc x=.agg [.int .i64 x.m.t.p,.int .i64 x.m.t.q,.int .i64 x.m.t.f,.int .i64 x.m.i,.int .i64 x.m.o,.bool x.m.w.q.neg,.sl (ens x.m.w.q.num),.sl (ens x.m.w.q.den),.int .i64 x.m.w.cost,.bool x.m.w.inf,.int .u64 x.m.w.set.toNat,.sl (ens x.m.w.aR),.sl (ens x.m.w.parts)]:=rfl
@[simp] theorem yk2:Enc.sz kH=13:=rfl
def Dq(a:aH)(x:aE):List kH:=(wW a x).map kH.mk
noncomputable def sY(r:aC)(a:aH)(x y:aE):List kH:=if y.f=a.q/\x.o=y.i/\(0<x.o\/a.f=0)/\r.times x.w y.w≠r.zero then[⟨⟨x.i,y.o,⟨x.t,y.t,0⟩,r.times x.w y.w⟩⟩]else[]
def uR(a:aH)(y:aE):List kH:=if y.f=a.q/\y.i=0/\a.f≠1 then[⟨⟨0,y.o,⟨a.p,y.t,2⟩,y.w⟩⟩]else[]
noncomputable def sJ(r:aC)(u:GTrans)(a:aH)(x:aE):List kH:=if x.f=a.p then Dq a x++u.aD.flatMap (sY r a x)else[]
noncomputable def qT(t u:GTrans)(a:aH):List kH:=t.aD.flatMap (sJ t.ring u a)++u.aD.flatMap (uR a)
def KY(a:aH)(x:aE):(Dq a x).length<=1:=by unfold Dq;rw[ra];exact HM a x
def KZ(r:aC)(a:aH)(x y:aE):(sY r a x y).length<=1:=by unfold sY;split<;>simp
def yeu(a:aH)(y:aE):(uR a y).length<=1:=by unfold uR;split<;>simp
noncomputable def x4(L:List aH)(b:List aH)(s:aH):List aH:=if s∈L\/s∈b then b else eJ aH.key b s
noncomputable def uq(L:List aH)(all:List kH):List aH:=all.foldl (λb x=>x4 L b x.m.t) []
def oN(x:aH)(L:List aH):Int:=match iE x L 0 with
 | some j=>(j:Int)
 | none =>-1
noncomputable def zJ(t u:GTrans)(s:Nat)(X:List aH × List aE):List aH × List aE :=
 (X.1++uq X.1 (qT t u (X.1.getD s ⟨0,0,0⟩)),X.2++(qT t u (X.1.getD s ⟨0,0,0⟩)).map λx=>⟨s,x.m.i,x.m.o,oN x.m.t (X.1++uq X.1 (qT t u (X.1.getD s ⟨0,0,0⟩))),x.m.w⟩)
noncomputable def dF(t u:GTrans)(X:List aH × List aE):Nat->List aH × List aE
 | 0=>X
 | s+1=>if s<(dF t u X s).1.length then zJ t u s (dF t u X s)else dF t u X s
noncomputable def Cn(t u:GTrans)(k:Nat)(L:List aH)(j:Nat):List aH:=if t.ring.times (t.aM.getD k dT) (u.aM.getD j dT)=t.ring.zero then L else L++[⟨k,j,0⟩]
noncomputable def rC(t u:GTrans)(L:List aH)(k j:Nat):List aH:=(List.range j).foldl (Cn t u k) L
noncomputable def lP(t u:GTrans)(b:Nat)(L:List aH)(k:Nat):List aH:=(List.range k).foldl (λL k=>rC t u L k b) L
end Go.Ab
namespace Go.Ab
open Enc (enc)
attribute [local simp] iJ bP.aY
def iZ(t u:GTrans)(a:aH)(k:Nat)(x:aE)(o:List kH)(j:Nat):St :=
 aB [(3,.ptr 3 0 0 0),(4,.ptr 4 0 0 0),(5,.ptr 5 0 0 0),(7,.own 7 0 0 o.length),(8,.p (.int .i64 k)),(9,.ptr 9 0 0 0),(10,.p (.int .i64 j))]
  [(3,⟨8,[.p (enc t)]⟩),(4,⟨8,[.p (enc u)]⟩),(5,⟨3,[.p (enc a)]⟩),(7,⟨13,aK o⟩),(9,⟨12,[.p (enc x)]⟩)]
def nW(t u:GTrans)(a:aH)(o:List kH)(k:Nat):St :=
 aB [(3,.ptr 3 0 0 0),(4,.ptr 4 0 0 0),(5,.ptr 5 0 0 0),(7,.own 7 0 0 o.length),(8,.p (.int .i64 k))]
  [(3,⟨8,[.p (enc t)]⟩),(4,⟨8,[.p (enc u)]⟩),(5,⟨3,[.p (enc a)]⟩),(7,⟨13,aK o⟩)]
def nV(u:GTrans)(a:aH)(o:List kH)(k:Nat):St :=
 aB [(4,.ptr 4 0 0 0),(5,.ptr 5 0 0 0),(7,.own 7 0 0 o.length),(13,.p (.int .i64 k))]
  [(4,⟨8,[.p (enc u)]⟩),(5,⟨3,[.p (enc a)]⟩),(7,⟨13,aK o⟩)]
def yan{t u:GTrans}{M:cQ t.ring}(MP:dB M){n:Nat}(hn:n+n+1<=M.lim){a:aH}{k:Nat}{x:aE}(p:x.w.aJ t.ring/\M.mb n x.w)
  (hU:∀ y∈u.aD,y.w.aJ t.ring/\M.mb n y.w) (ao:u.aD.length<=1000) {o:List kH} (ho:o.length<=2000000) {Q:Exit->St->Prop} {ks:List Kt} {st:St} (hw:aA st (iZ t u a k x o 0))
  (hx:gA P 156 Q (fO 2 ks) 2 (iZ t u a k x (o++u.aD.flatMap (sY t.ring a x)) u.aD.length)):vL P 156 Q g.qt ks st:=by
 refine b6 (S:=λj:Nat=>iZ t u a k x (o++(u.aD.take j).flatMap (sY t.ring a x)) j) (I:=λj=>j<=u.aD.length) (m:=λj=>u.aD.length - j) 0 (by simpa using hw) (by omega) ?_;rintro j hj R ad hr al;have V:=aZ j;have ap:((u.aD.take j).flatMap (sY t.ring a x)).length<=1000:=by have:=vH (l:=u.aD.take j) (f:=sY t.ring a x) (B:=1) λy _=>KZ _ _ _ _;rw[List.length_take]at this;omega
 by_cases b:j<u.aD.length
 .have hs:=EK (sY t.ring a x) b;have d:∀ st',aA st' (iZ t u a k x (o++(u.aD.take (j+1)).flatMap (sY t.ring a x)) (j+1))->R .normal st':=λst' h=>ad (j+1) st' h (by omega) (by omega);rw[hs,<- List.append_assoc]at d;have aq:(o++(u.aD.take j).flatMap (sY t.ring a x)).length<=2001000:=by rw[gQ];omega
  generalize o++(u.aD.take j).flatMap (sY t.ring a x)=O at *
  obtain⟨Y,my⟩:=hU _ (bU b);have ag:=M.timesS (show n<=M.lim by omega) p.1 Y p.2 my;have af:=MP.pr hn (Eu p.1 Y) (M.times p.1 Y p.2 my);have X:=Gm t.ring (t.ring.times x.w (u.aD[j]'b).w) (af.mono (by omega));simp[g.qt,iZ,aB,b];refine bK b ?_;generalize u.aD[j]'b=y at *
  refine aW ag ?_;generalize z:t.ring.times x.w y.w=w at *
  simp;have F:¬ (y.f=a.q/\x.o=y.i/\(0<x.o\/a.f=0)/\t.ring.times x.w y.w≠t.ring.zero)->∀ st',aA st' (iZ t u a k x O (j+1))->R .normal st':=λhc st' h=>d st' (by rw[show sY t.ring a x y=[] from bD hc,kY];exact h);have D:y.f=a.q->x.o=y.i->(0<x.o\/a.f=0)->w≠t.ring.zero->∀ st',aA st' (iZ t u a k x (O++[⟨⟨x.i,y.o,⟨x.t,y.t,0⟩,w⟩⟩]) (j+1))->R .normal st':=λG J W U st' h=>d st' (by rw[show sY t.ring a x y=[⟨⟨x.i,y.o,⟨x.t,y.t,0⟩,w⟩⟩] from (aX ⟨G,J,W,by rw[z];exact U⟩).trans (by rw[z])];exact h);refine⟨λG=>⟨λJ=>⟨λW=>?_,λW=>⟨λU=>?_,λU=>?_⟩⟩,λJ=>?_⟩,λG=>?_⟩
  .refine aW X ?_;by_cases C:w=t.ring.zero
   .rw[decide_eq_true C];simp[V];refine F (λh=>h.2.2.2 (z.trans C)) _ (aA.to [3,4,5,7,8,9,10] [((3,0),3),((4,0),4),((5,0),5),((7,0),7),((9,0),9)] ?_);simp[iZ,aB]
   .rw[decide_eq_false C];simp[V,eL];refine⟨by omega,D G J (.inl W) C _ (aA.to [3,4,5,7,8,9,10] [((3,0),3),((4,0),4),((5,0),5),((114,0),7),((9,0),9)] ?_)⟩;simp[iZ,aB]
  .refine aW X ?_;by_cases C:w=t.ring.zero
   .rw[decide_eq_true C];simp[V];refine F (λh=>h.2.2.2 (z.trans C)) _ (aA.to [3,4,5,7,8,9,10] [((3,0),3),((4,0),4),((5,0),5),((7,0),7),((9,0),9)] ?_);simp[iZ,aB]
   .rw[decide_eq_false C];simp[V,eL];refine⟨by omega,D G J (.inr U) C _ (aA.to [3,4,5,7,8,9,10] [((3,0),3),((4,0),4),((5,0),5),((114,0),7),((9,0),9)] ?_)⟩;simp[iZ,aB]
  all_goals rw[V]
  all_goals refine F (λh=>?_) _ (aA.to [3,4,5,7,8,9,10] [((3,0),3),((4,0),4),((5,0),5),((7,0),7),((9,0),9)] ?_)
  all_goals first|(simp[iZ,aB];done)|(obtain⟨q1,q2,q3,q4⟩:=h;first|exact G q1|exact J q2|exact q3.elim (λq=>W q) (λq=>U q)|exact q3.elim (λq=>by omega) (λq=>U q))
 .have:j=u.aD.length:=by omega
  subst this;simp[g.qt,iZ,aB];refine al _ _ ?_;simpa[iZ,aB]using hx
def yam{t u:GTrans}{M:cQ t.ring}(MP:dB M){n:Nat}(hn:n+n+1<=M.lim){a:aH}(hT:∀ x∈t.aD,x.w.aJ t.ring/\M.mb n x.w)(af:t.aD.length<=1000)
  (hU:∀ y∈u.aD,y.w.aJ t.ring/\M.mb n y.w) (W:u.aD.length<=1000) {Q:Exit->St->Prop} {ks:List Kt} {st:St} (hw:aA st (nW t u a [] 0))
  (hx:gA P 156 Q (fO 0 ks) 0 (nW t u a (t.aD.flatMap (sJ t.ring u a)) t.aD.length)):vL P 156 Q g.rk ks st:=by
 refine b6 (S:=λk:Nat=>nW t u a ((t.aD.take k).flatMap (sJ t.ring u a)) k) (I:=λk=>k<=t.aD.length) (m:=λk=>t.aD.length - k) 0 (by simpa using hw) (by omega) ?_;rintro k hk R F hr Y;have e1:=aZ k;have al:((t.aD.take k).flatMap (sJ t.ring u a)).length<=1001000:=by
  have:=vH (l:=t.aD.take k) (f:=sJ t.ring u a) (B:=1001) λx _=>by
   unfold sJ;split
   .have C:=KY a x;have G:=vH (l:=u.aD) (f:=sY t.ring a x) (B:=1) λy _=>KZ _ _ _ _;rw[gQ];omega
   .simp
  rw[fY]at this;have J:min k t.aD.length*1001<=1000*1001:=jU _ (by omega);omega
 by_cases j:k<t.aD.length
 .have hs:=EK (sJ t.ring u a) j;have d:∀ st',aA st' (nW t u a ((t.aD.take (k+1)).flatMap (sJ t.ring u a)) (k+1))->R .normal st':=λst' h=>F (k+1) st' h (by omega) (by omega);rw[hs]at d;generalize (t.aD.take k).flatMap (sJ t.ring u a)=O at *
  have ad:=hT _ (bU j);have ag:=KY a t.aD[k];have V:Dq a t.aD[k]=if t.aD[k].o=0/\a.f≠2 then[⟨⟨t.aD[k].i,0,⟨t.aD[k].t,a.q,1⟩,t.aD[k].w⟩⟩]else[]:=by unfold Dq wW;split<;>rfl
  have b:∀ (U:t.aD[k].f=a.p) (o:List kH) (st':St),o=O++Dq a t.aD[k]->aA st' (iZ t u a k t.aD[k] o 0)->vL P 156 R g.qt [.bX 2,.bX 1,.code (.cX [⟨some 20,.mv (.t 8),none⟩,⟨some 21,.dI .add (.t 20) (.c (.p (.int .i64 1))),none⟩,⟨some 8,.mv (.t 21),none⟩] [[8,9,10],[20],[21]])] st':=λU o st' ho X=>by
   refine yan MP hn ad hU W (by rw[ho,gQ];omega) X ?_;have D:o++u.aD.flatMap (sY t.ring a t.aD[k])=O++sJ t.ring u a t.aD[k]:=by rw[ho];unfold sJ;rw[aX U];simp
   rw[D];generalize O++sJ t.ring u a t.aD[k]=O2 at *
   simp[iZ,aB,e1];refine d _ (aA.to [3,4,5,7,8] [((3,0),3),((4,0),4),((5,0),5),((7,0),7)] ?_);simp[nW,aB]
  have z:t.aD[k].f≠a.p->∀ st',aA st' (nW t u a O (k+1))->R .normal st':=λU st' h=>d st' (by rw[show sJ t.ring u a t.aD[k]=[] from bD U,kY];exact h);clear F d hs;simp[g.rk,nW,aB,j];refine bK j ?_;generalize t.aD[k]'j=x at *
  refine⟨λC=>⟨λG=>⟨λJ=>?_,λJ=>?_⟩,λG=>?_⟩,λC=>?_⟩
  .refine b C O _ (by rw[V,bD λh=>h.2 J,kY]) (aA.to [3,4,5,7,8,9,10] [((3,0),3),((4,0),4),((5,0),5),((7,0),7),((9,0),9)] ?_);simp[iZ,aB]
  .refine⟨by omega,b C (O++[⟨⟨x.i,0,⟨x.t,a.q,1⟩,x.w⟩⟩]) _ (by rw[V,aX ⟨G,J⟩]) (aA.to [3,4,5,7,8,9,10] [((3,0),3),((4,0),4),((5,0),5),((52,0),7),((9,0),9)] ?_)⟩;simp[iZ,aB]
  .refine b C O _ (by rw[V,bD λh=>G h.1,kY]) (aA.to [3,4,5,7,8,9,10] [((3,0),3),((4,0),4),((5,0),5),((7,0),7),((9,0),9)] ?_);simp[iZ,aB]
  .rw[e1];refine z C _ (aA.to [3,4,5,7,8] [((3,0),3),((4,0),4),((5,0),5),((7,0),7)] ?_);simp[nW,aB]
 .have:k=t.aD.length:=by omega
  subst this;simp[g.rk,nW,aB];refine Y _ _ ?_;simpa[nW,aB]using hx
def yal{u:GTrans}{a:aH}(G:u.aD.length<=1000){o:List kH}(ho:o.length<=2000000){Q:Exit->St->Prop}{ks:List Kt}{st:St}(X:aA st (nV u a o 0))
  (Y:gA P 156 Q (fO 4 ks) 4 (nV u a (o++u.aD.flatMap (uR a)) u.aD.length)):vL P 156 Q g.rl ks st:=by
 refine b6 (S:=λk:Nat=>nV u a (o++(u.aD.take k).flatMap (uR a)) k) (I:=λk=>k<=u.aD.length) (m:=λk=>u.aD.length - k) 0 (by simpa using X) (by omega) ?_;rintro k hk R z hr D;have F:=aZ k;have U:((u.aD.take k).flatMap (uR a)).length<=1000:=by have:=vH (l:=u.aD.take k) (f:=uR a) (B:=1) λy _=>yeu _ _;rw[List.length_take]at this;omega
 by_cases d:k<u.aD.length
 .have W:=EK (uR a) d;have b:∀ st',aA st' (nV u a (o++(u.aD.take (k+1)).flatMap (uR a)) (k+1))->R .normal st':=λst' h=>z (k+1) st' h (by omega) (by omega);rw[W,<- List.append_assoc]at b;have V:(o++(u.aD.take k).flatMap (uR a)).length<=2001000:=by rw[gQ];omega
  generalize o++(u.aD.take k).flatMap (uR a)=O at *
  simp[g.rl,nV,aB,d];refine bK d ?_;generalize u.aD[k]'d=y at *
  have C:¬ (y.f=a.q/\y.i=0/\a.f≠1)->∀ st',aA st' (nV u a O (k+1))->R .normal st':=λJ st' h=>b st' (by rw[show uR a y=[] from bD J,kY];exact h);refine⟨λj=>⟨λn=>⟨λx=>?_,λx=>?_⟩,λn=>?_⟩,λj=>?_⟩;rotate_left
  .rw[show uR a y=[⟨⟨0,y.o,⟨a.p,y.t,2⟩,y.w⟩⟩] from aX ⟨j,n,x⟩]at b;rw[F];refine⟨by omega,b _ (aA.to [4,5,7,13] [((4,0),4),((5,0),5),((154,0),7)] ?_)⟩;simp[nV,aB]
  all_goals rw[F]
  all_goals refine C (λh=>?_) _ (aA.to [4,5,7,13] [((4,0),4),((5,0),5),((7,0),7)] ?_)
  all_goals first|(simp[nV,aB];done)|(first|exact j h.1|exact n h.2.1|exact h.2.2 x)
 .have:k=u.aD.length:=by omega
  subst this;simp[g.rl,nV,aB];refine D _ _ ?_;simpa[nV,aB]using Y
def yak{t u:GTrans}{M:cQ t.ring}(h:dB M){n:Nat}(hn:n+n+1<=M.lim)(a:aH)(i:∀ x∈t.aD,x.w.aJ t.ring/\M.mb n x.w)(d:t.aD.length<=1000)
  (j:∀ y∈u.aD,y.w.aJ t.ring/\M.mb n y.w) (b:u.aD.length<=1000):zS 33 [enc t,enc u,enc a] (.sl (ens (qT t u a))):=by
 have k:(t.aD.flatMap (sJ t.ring u a)).length<=1001000:=by
  have:=vH (l:=t.aD) (f:=sJ t.ring u a) (B:=1001) λx _=>by
   unfold sJ;split
   .have z:=KY a x;have C:=vH (l:=u.aD) (f:=sY t.ring a x) (B:=1) λy _=>KZ _ _ _ _;rw[gQ];omega
   .simp
  have D:t.aD.length*1001<=1000*1001:=jU _ (by omega);omega
 refine Sp.vz c.mh λ_=>?_;simp[g.mh];refine yam h hn i d j b (t:=t) (u:=u) (a:=a) (aA.nl 7 77 13 rfl (aA.to [3,4,5,7,8] [((3,0),3),((4,0),4),((5,0),5),((77,0),7)] ?_)) ?_
 .simp[nW,aB]
 unfold qT;generalize t.aD.flatMap (sJ t.ring u a)=O at *
 simp[nW,aB];refine yal (u:=u) (a:=a) (o:=O) b (by omega) (aA.to [4,5,7,13] [((4,0),4),((5,0),5),((7,0),7)] ?_) ?_
 .simp[nV,aB]
 generalize O++u.aD.flatMap (uR a)=p at *
 simp[nV,aB]
theorem Sj{x:aH}:∀ {L:List aH} {k i:Nat} (h:k<L.length),(∀ j (h:j<L.length),j<k->L[j]≠x)->L[k]=x->iE x L i=some (i+k)
 | y::L,0,i,_,_,h=>by
  simp only[Nt]at h;simp[iE,h]
 | y::L,k+1,i,n,d,h=>by
  have b:=d 0 (by simp) (by omega);simp only[List.getElem_cons_zero]at b;have:=Sj (x:=x) (L:=L) (k:=k) (i:=i+1) (by simpa using n) (λj f l=>by have:=d (j+1) (by simpa using f) (by omega);rw[List.getElem_cons_succ]at this;exact this) (by simpa using h);simp only[iE,if_neg (Ne.symm b),this]
  congr 1;omega
def Fh(L:List aH)(x:aH)(k:Nat):St:=aB [(0,.p (.sl (ens L))),(3,.ptr 3 0 0 0),(5,.p (.int .i64 k))] [(3,⟨3,[.p (enc x)]⟩)]
def Lz(L:List aH)(x:aH)(Y:L.length<=1000000):zS 35 [.sl (ens L),enc x] (.int .i64 (oN x L)):=by
 refine Sp.vz c.jf λ_=>?_;simp[g.jf];refine b6 (S:=λk:Nat=>Fh L x k) (I:=λk=>k<=L.length/\∀ j (h:j<L.length),j<k->L[j]≠x) (m:=λk=>L.length - k) 0 (aA.to [0,3,5] [((3,0),3)] (by simp[Fh,aB])) ⟨by omega,λj _ h=>by omega⟩ ?_;rintro k ⟨hk,p⟩ R u Q U;have D:=aZ k;by_cases i:k<L.length
 .have d:L[k]≠x->∀ st',aA st' (Fh L x (k+1))->R .normal st':=λz st' h=>u (k+1) st' h ⟨by omega,λj l o=>by
   obtain h|rfl:=Nat.lt_or_eq_of_le (Nat.le_of_lt_succ o)
   .exact p j l h
   .exact z⟩ (by omega)
  have f:L[k]=x->oN x L=(k:Int):=λO=>by unfold oN;rw[Sj i p O];simp
  simp[g.tj,Fh,aB,i];refine bK i ?_;generalize L[k]=y at *
  obtain⟨a,b,c⟩:=x;obtain⟨V,W,X⟩:=y;simp only[aH.mk.injEq,ne_eq]at d f;simp;refine⟨λF G J=>Q _ ?_,λh=>?_⟩
  .simp[f ⟨F,G,J⟩]
  .rw[D];refine d (λn=>h n.1 n.2.1 n.2.2) _ (aA.to [0,3,5] [((3,0),3)] ?_);simp[Fh,aB]
 .have:k=L.length:=by omega
  subst this;have C:oN x L = -1:=by
   unfold oN;rw[CX.2 λh=>by
    obtain⟨j,l,e⟩:=Jt h;exact p j l l e]
  simp[g.tj,Fh,aB];refine U _ _ ?_;simp[C]
def WV(x y:aH):zS 85 [enc x,enc y] (.bool (decide (x.key<y.key))):=by
 obtain⟨a,b,d⟩:=x;obtain⟨i,j,k⟩:=y;refine Sp.vz c.nk λ_=>?_;simp[g.nk,aH.key];refine⟨λf=>⟨λh=>?_,λh=>?_⟩,λf=>?_⟩
 .simp[GJ,f,h]
 .simp[GJ,f,h]
 .simp[GJ,f]
theorem Tl{α : Type}{key : α -> List Int}{x : α}:∀ {O:List α} {i:Nat},i<=O.length->(∀ j (h:j<O.length),j<i->key O[j]<key x)->(∀ (h:i<O.length),key x<key O[i])->eJ key O x=O.take i++x::O.drop i
 | [],i,_,_,_=>by simp[eJ]
 | z::O,0,_,_,h=>by
  have:=h (by simp);simp only[Nt]at this;simp[eJ,this]
 | z::O,i+1,k,d,f=>by have b:=d 0 (by simp) (by omega);simp only[List.getElem_cons_zero]at b;have o:¬ key x<key z:=λh=>List.lt_irrefl _ (List.lt_trans h b);have p:=Tl (key:=key) (x:=x) (O:=O) (i:=i) (by simpa using k) (λj l n=>by have:=d (j+1) (by simpa using l) (by omega);rw[List.getElem_cons_succ]at this;exact this) (λh=>by have:=f (by simpa using h);rw[List.getElem_cons_succ]at this;exact this);simp only[eJ,if_neg o,p,List.take_succ_cons,List.drop_succ_cons,List.cons_append]
theorem SU{x:aH}{L:List aH}:(0<=oN x L) ↔ x∈L:=by
 unfold oN;cases h:iE x L 0 with
 | none=>simp only;exact⟨λh=>(by omega),λb=>absurd b (CX.1 h)⟩
 | some j=>simp only;exact⟨λ_=>GK λb=>(by rw[CX.2 b]at h;cases h),λ_=>(by omega)⟩
def yfx(L b:List aH)(s:aH):(x4 L b s).length<=b.length+1:=by
 unfold x4;split
 .omega
 .rw[Tn];omega
noncomputable def wV(L:List aH)(all:List kH)(k:Nat):List aH:=uq L (all.take k)
theorem O0(L:List aH){all:List kH}{k:Nat}(h:k<all.length):wV L all (k+1)=x4 L (wV L all k) all[k].m.t:=by unfold wV uq;rw[ed h,z8];rfl
theorem Sl(L:List aH){all:List kH}:∀ {k:Nat},k<=all.length->(wV L all k).length<=k
 | 0,_=>by simp[wV,uq]
 | k+1,h=>by rw[O0 L (by omega)];have:=yfx L (wV L all k) all[k].m.t;have:=Sl L (all:=all) (k:=k) (by omega);omega
def qO(L:List aH)(all:List kH)(O:List aH)(k:Nat):St:=aB [(0,.p (.sl (ens L))),(1,.p (.sl (ens all))),(5,.own 5 0 0 O.length),(6,.p (.int .i64 k))] [(5,⟨3,aK O⟩)]
def yT(L:List aH)(all:List kH)(O:List aH)(k:Nat)(x:aH)(i:Nat):St:=aB [(0,.p (.sl (ens L))),(1,.p (.sl (ens all))),(5,.own 5 0 0 O.length),(6,.p (.int .i64 k)),(7,.ptr 7 0 0 0),(8,.p (.int .i64 i))] [(5,⟨3,aK O⟩),(7,⟨3,[.p (enc x)]⟩)]
def yf0(L:List aH)(all:List kH)(hL:L.length<=1000000)(hA:all.length<=1000000)(hs:∀ k,k<=all.length->eH aH.key (wV L all k)) :
  Sp P 34 [.sl (ens L),.sl (ens all)] (.fresh 3 (ens (uq L all))):=by
 refine Sp.vz c.mj λ_=>?_;simp[g.mj]
 refine b6 (S:=λk:Nat=>qO L all (wV L all k) k) (I:=λk=>k<=all.length) (m:=λk=>all.length - k) 0
  (aA.nl 5 77 3 rfl (aA.to [0,1,5,6] [((77,0),5)] (by simp[qO,aB,wV,uq]))) (by omega) ?_
 rintro k hk R X hr hx;have F:=aZ k;by_cases n:k<all.length
 .have b:∀ st',aA st' (qO L all (wV L all (k+1)) (k+1))->R .normal st':=λst' h=>X (k+1) st' h (by omega) (by omega);rw[O0 L n]at b;have al:=hs k hk;have af:=Sl L hk;generalize wV L all k=O at *
  have p1:=Lz L all[k].m.t hL;have p2:=Lz O all[k].m.t (by omega);have q1:=SU (x:=all[k].m.t) (L:=L);have q2:=SU (x:=all[k].m.t) (L:=O);simp[g.ti,qO,aB,n];refine bK n ?_;generalize all[k]'n=y at *
  obtain⟨⟨mi,mo,x,mw⟩⟩:=y;simp only at *
  have d:x∈L\/x∈O->∀ st',aA st' (qO L all O (k+1))->R .normal st':=λhc st' h=>b st' (by rw[show x4 L O x=O from aX hc];exact h);refine aW p1 ?_;by_cases o:x∈L
  .simp[q1.2 o,F];refine d (.inl o) _ (aA.to [0,1,5,6] [((5,0),5)] ?_);simp[qO,aB]
  have q3:oN x L<0:=by have:=mt q1.1 o;omega
  have q5:¬ 0<=oN x L:=by omega
  simp[q5];refine aW p2 ?_;by_cases f:x∈O
  .simp[q2.2 f,F];refine d (.inr f) _ (aA.to [0,1,5,6] [((5,0),5)] ?_);simp[qO,aB]
  have q4:oN x O<0:=by have:=mt q2.1 f;omega
  have q6:¬ 0<=oN x O:=by omega
  simp[q6];rw[show x4 L O x=eJ aH.key O x from bD λh=>h.elim o f]at b;refine b6 (S:=λi:Nat=>yT L all O k x i) (I:=λi=>i<=O.length/\∀ j (h:j<O.length),j<i->O[j].key<x.key) (m:=λi=>O.length - i) 0 (aA.to [0,1,5,6,7,8] [((5,0),5),((7,0),7)] (by simp[yT,aB])) ⟨by omega,λj _ h=>by omega⟩ ?_;rintro i ⟨V,z⟩ R2 Y ag D;have e4:=aZ i;have p:(∀ h:i<O.length,¬ O[i].key<x.key)->eJ aH.key O x=O.take i++x::O.drop i:=λQ=>Tl V z λh=>by
   obtain u|u|u:=BO x.key O[i].key
   .exact u
   .exact absurd (K7.2 u ▸ bU h) f
   .exact absurd u (Q h)
  by_cases U:i<O.length
  .have l:=WV O[i] x;simp[g.th,yT,aB,U];refine bK U ?_;by_cases G:O[i].key<x.key
   .rw[decide_eq_true G]at l;refine aW l ?_;simp[e4];refine Y (i+1) _ (aA.to [0,1,5,6,7,8] [((5,0),5),((7,0),7)] (by simp[yT,aB])) ⟨by omega,λj hj W=>?_⟩ (by omega);obtain h|rfl:=Nat.lt_or_eq_of_le (Nat.le_of_lt_succ W)
    .exact z j hj h
    .exact G
   .rw[decide_eq_false G]at l;refine aW l ?_;have J:=p λ_=>G;rw[J]at b;have hm:min i O.length=i:=by omega
    simp;refine D _ _ ?_;simp[F,eL,hm];have C:i+1+(O.length - i)=O.length+1:=by omega
    have ad:(O.drop i).take (O.length - i)=O.drop i:=eZ (by simp);refine⟨by omega,⟨by omega,by omega⟩,by omega,by omega,⟨by omega,by omega⟩,?_⟩;refine b _ (aA.to [0,1,5,6] [((54,0),5)] ?_);rw[ad];simp[qO,aB,C];omega
  .have:i=O.length:=by omega
   subst this;have J:=p λh=>absurd h U;rw[J]at b;simp[g.th,yT,aB];refine D _ _ ?_;simp[F,eL];refine⟨by omega,by omega,b _ (aA.to [0,1,5,6] [((54,0),5)] ?_)⟩;simp[qO,aB]
 .have:k=all.length:=by omega
  subst this;have he:wV L all all.length=uq L all:=by unfold wV;rw[eZ (dE _)]
  rw[he];simp[g.ti,qO,aB];refine hx _ _ ?_;simp
end Go.Ab
namespace Go.Ab
inductive kq (nx:List (List Int)) (m:List Bool):Nat->Prop
 | base {i:Nat}:m[i]?=some true->kq nx m i
 | step {i j:Nat} {l:List Int}:kq nx m i->nx[i]?=some l->(j:Int)∈l->kq nx m j
open Classical in
noncomputable def iN(nx:List (List Int))(m:List Bool):List Bool:=(List.range m.length).map λi=>decide (kq nx m i)
structure tH (nx:List (List Int)) (m0:List Bool) (N:Nat) (m:List Bool) (o:List Int):Prop where
 ml:m.length=N
 Hd:m0.length=N
 nl:nx.length=N
 sub:∀ i:Nat,m0[i]?=some true->m[i]?=some true
 Fg:∀ i:Nat,m[i]?=some true->kq nx m0 i
 op:∀ x∈o,∃ i:Nat,x=i/\m[i]?=some true
 cl:∀ (i:Nat) (l:List Int),m[i]?=some true->(i:Int)∉o->nx[i]?=some l->∀ j:Nat,(j:Int)∈l->m[j]?=some true
 sz:2*sM m+o.length<=3*N
structure oB (nx:List (List Int)) (m0:List Bool) (N S:Nat) (i:Nat) (l:List Int) (k:Nat) (m:List Bool) (o:List Int):Prop where
 ml:m.length=N
 Hd:m0.length=N
 nl:nx.length=N
 ni:nx[i]?=some l
 ri:kq nx m0 i
 sub:∀ i:Nat,m0[i]?=some true->m[i]?=some true
 Fg:∀ i:Nat,m[i]?=some true->kq nx m0 i
 op:∀ x∈o,∃ i:Nat,x=i/\m[i]?=some true
 cl:∀ (i':Nat) (l':List Int),i'≠i->m[i']?=some true->(i':Int)∉o->nx[i']?=some l'->∀ j:Nat,(j:Int)∈l'->m[j]?=some true
 hd:∀ j:Nat,(j:Int)∈l.take k->m[j]?=some true
 sz:2*sM m+o.length+1<=S
 hS:S<=3*N
def tH.pop{nx:List (List Int)}{m0 m:List Bool}{N:Nat}{o:List Int}{x:Int}(h:tH nx m0 N m (o++[x])):∃ (i:Nat) (l:List Int),x=i/\i<N/\nx[i]?=some l/\oB nx m0 N (2*sM m+o.length+1) i l 0 m o:=by
 obtain⟨i,hi,hm⟩:=h.op x (by simp);have d:i<m.length:=(iU.1 hm).1;have b:i<nx.length:=by rw[h.nl,<- h.ml];exact d
 refine⟨i,nx[i],hi,by rw[<- h.ml];exact d,dO b,h.ml,h.Hd,h.nl,dO b,h.Fg i hm,h.sub,h.Fg,λy z=>h.op y (by simp[z]),λi' l' u f n k=>h.cl i' l' f (λb=>?_) k,λj p=>by simp at p,dE _,by have:=h.sz;simp at this;omega⟩;obtain b|b:=dN.1 b
 .exact n b
 .simp only[iT]at b;subst hi;omega
def oB.done{nx:List (List Int)}{m0 m:List Bool}{N S i:Nat}{l:List Int}{k:Nat}{o:List Int}(h:oB nx m0 N S i l k m o)(n:l.length<=k):tH nx m0 N m o:=by
 refine⟨h.ml,h.Hd,h.nl,h.sub,h.Fg,h.op,λi' l' hm b hn j f=>?_,by have:=h.sz;have:=h.hS;omega⟩;by_cases d:i'=i
 .subst d;rw[h.ni]at hn;cases hn;exact h.hd j (by rwa[eZ n])
 .exact h.cl i' l' d hm b hn j f
def oB.skip{nx:List (List Int)}{m0 m:List Bool}{N S i:Nat}{l:List Int}{k:Nat}{o:List Int}{j:Nat}(h:oB nx m0 N S i l k m o)(u:l[k]?=some (j:Int))(p:m[j]?=some true):oB nx m0 N S i l (k+1) m o:=by
 refine { h with hd:=λn b=>?_ };obtain⟨d,f⟩:=iU.1 u;rw[ed d,f]at b;obtain b|b:=dN.1 b
 .exact h.hd n b
 .simp only[iT]at b;have:n=j:=by omega
  subst this;exact p
def oB.push{nx:List (List Int)}{m0 m:List Bool}{N S i:Nat}{l:List Int}{k:Nat}{o:List Int}{j:Nat}(h:oB nx m0 N S i l k m o)(U:l[k]?=some (j:Int))(J:m[j]?=some false):oB nx m0 N S i l (k+1) (m.set j true) (o++[(j:Int)]):=by
 obtain⟨y,z⟩:=iU.1 U;obtain⟨G,R⟩:=iU.1 J;have C:(j:Int)∈l:=by rw[<- z];exact bU y
 have b:∀ q:Nat,m[q]?=some true->(m.set j true)[q]?=some true:=λq hq=>by
  rw[vK];split
  .simp
  .exact hq
 have n:(m.set j true)[j]?=some true:=by simp[G]
 have f:∀ q:Nat,(m.set j true)[q]?=some true->q=j\/m[q]?=some true:=λq hq=>by
  rw[vK]at hq;split at hq
  .rename_i h;exact .inl h.symm
  .exact .inr hq
 refine⟨by rw[List.length_set];exact h.ml,h.Hd,h.nl,h.ni,h.ri,λq hq=>b q (h.sub q hq),λq hq=>?_,λx p=>?_,λi' l' I hm D hn u d=>?_,λu d=>?_,?_,h.hS⟩
 .obtain rfl|hq:=f q hq
  .exact .step h.ri h.ni C
  .exact h.Fg q hq
 .obtain p|p:=dN.1 p
  .obtain⟨q,O,Q⟩:=h.op x p;exact⟨q,O,b q Q⟩
  .simp only[iT]at p;exact⟨j,p,n⟩
 .obtain rfl|hm:=f i' hm
  .exact absurd (List.mem_append_right _ (iT.2 rfl)) D
  .exact b u (h.cl i' l' I hm (λF=>D (Cf _ F)) hn u d)
 .rw[ed y,z]at d;obtain d|d:=dN.1 d
  .exact b u (h.hd u d)
  .simp only[iT]at d;have:u=j:=by omega
   subst this;exact n
 .have V:=Ks m j (by rw[eV,J];rfl);have:=h.sz;simp only[gQ,Jq];omega
open Classical in
theorem tH.fin{nx:List (List Int)}{m0 m:List Bool}{N:Nat}(h:tH nx m0 N m []):m=iN nx m0:=by
 have k:∀ i:Nat,kq nx m0 i->m[i]?=some true:=λi hi=>by
  induction hi with
  | base hm=>exact h.sub _ hm
  | step _ hn j l=>exact h.cl _ _ l (by simp) hn _ j
 apply Bb
 .simp[iN,h.ml,h.Hd]
 .intro i d n;simp only[iN,Ce,GI];by_cases b:kq nx m0 i
  .rw[decide_eq_true b];have:=k i b;rw[dO d]at this;exact NG this
  .rw[decide_eq_false b];cases f:m[i]with
   | false=>rfl
   | true=>exact absurd (h.Fg i (by rw[dO d,f])) b
def lW(m:List Bool)(k:Nat):List Int:=((List.range k).filter λi=>m.getD i false).map λ(i:Nat)=>(i:Int)
theorem M6:∀ (m:List Bool),sM m<=m.length
 | []=>dE _
 | b::l=>by have:=M6 l;cases b<;>simp[sM]<;>omega
def YY{nx:List (List Int)}{m:List Bool}{N:Nat}(d:m.length=N)(p:nx.length=N):tH nx m N m (lW m N):=by
 refine⟨d,d,p,λi h=>h,λi h=>.base h,λx z=>?_,λi l o j=>?_,?_⟩
 .obtain⟨i,y,rfl⟩:=cA.1 z;obtain⟨k,n⟩:=kI.1 y;have b:i<m.length:=by rw[d];exact yF.1 k
  refine⟨i,rfl,?_⟩;rw[List.getD_eq_getElem?_getD,List.getElem?_eq_getElem b]at n;rw[List.getElem?_eq_getElem b];simpa using n
 .have f:i<N:=by rw[<- d];exact(iU.1 o).1
  have u:m.getD i false=true:=by rw[eV,o];rfl
  exact absurd (cA.2 ⟨i,kI.2 ⟨yF.2 f,u⟩,rfl⟩) j
 .have:=M6 m;have k:(lW m N).length<=N:=by unfold lW;rw[ra];exact dM (kB _ _) (Ba List.length_range)
  omega
theorem ya3(m:List Bool){k:Nat}(d:k<m.length):lW m (k+1)=lW m k++(if m[k]=true then[(k:Int)]else[]):=by
 unfold lW;rw[B7,tW,sS]
 congr 1
 have:m.getD k false=m[k]:=by rw[eV,dO d];rfl
 by_cases b:m[k]=true
 .rw[aX b,List.filter_cons_of_pos (by rw[this];exact b)];rfl
 .rw[bD b,List.filter_cons_of_neg (by rw[this];exact b)];rfl
end Go.Ab
