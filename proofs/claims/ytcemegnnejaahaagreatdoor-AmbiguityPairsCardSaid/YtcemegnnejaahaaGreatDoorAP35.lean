/- Lemmas for the law AmbiguityOfDeterministic, part 35. No conditions. -/
import Derived.Test.YtcemegnnejaahaaGreatDoorAP34
set_option maxRecDepth 100000
set_option maxHeartbeats 4000000
set_option linter.all false
namespace Go.Ab
open Enc (enc)
attribute [local simp] zaj Opd.slots
theorem zr9(N:Nat):avs (rowG N fun _=>0)=List.replicate N (.p (.agg [.bool false,.sl [],.sl []])):=by unfold rowG;rw[zi3,zc8];simp[zsm,ens]
def fwd(A:GAuto)(N:Nat)(f:Nat->Nat):List Int->Nat->Nat
 | []=>f
 | l::w=>fwd A N (rwN A l f N) w
theorem zi9(A:GAuto)(N:Nat):∀ (w:List Int) (f:Nat->Nat) (l:Int),fwd A N f (w++[l])=rwN A l (fwd A N f w) N
 | [],_,_=>rfl
 | _::w,f,l=>zi9 A N w _ l
theorem z4h{A:GAuto}{N:Nat}(hA:CtrOk A N){f:Nat->Nat}(hf:∀ t,f t<=1):∀ (w:List Int) (n:Nat),(∀ t,f t<=2048^n)->∀ t,fwd A N f w t<=2048^(n+w.length):=by
 intro w;clear hf
 induction w generalizing f with
 | nil=>intro n h t;exact h t
 | cons l w ih =>
  intro n h t;have hf0:∀ x∈A.arcs,0<=x.f:=fun x hx=>(hA.inN.f x hx).1;have h2:∀ t,rwN A l f N t<=2048^(n+1):=by intro t;have h1:=z12 hf0 (l:=l) h N t;have h3:2048^n*ltA A.arcs N<=2048^n*2048:=ynu _ (ym6 (zxk _ _) hA.al);rw[ymm];omega
  have:=ih (n+1) h2 t;rw[ymz,show n+(w.length+1)=n+1+w.length by omega];exact this
def n4S(A:GAuto)(U:List Bool)(W:List Int)(N wi:Nat)(f:Nat->Nat):St :=
 mkSt [(4,.ptr 4 0 0 0),(6,.ptr 6 0 0 0),(8,.own 80 0 0 N),(59,.p (.sl (ens W))),(60,.p (.int .i64 W.length)),(61,.p (.int .i64 wi))]
  [(4,⟨3,[zR3]⟩),(6,⟨9,[.p (enc (pth A U))]⟩),(80,⟨3,avs (rowG N f)⟩)]
theorem yc7{A:GAuto}{N:Nat}(hA:CtrOk A N){U:List Bool}{W:List Int}(hW:W.length<=900)(hWl:∀ x∈W,1<=x/\x<=32){f:Nat->Nat}(hf:∀ t,f t<=1)
  {Q:Exit->St->Prop} {ks:List Kt} {st:St} (hw:Weak st (n4S A U W N 0 f)) (hx:zb8 P 119 Q (zay 3 ks) 3 (n4S A U W N W.length (fwd A N f W))):vL P 119 Q g.pn ks st:=by
 have hN:=hA.N1;have hst:A.st=(N:Int):=hA.inN.st;refine zag (S:=fun k:Nat=>n4S A U W N k (fwd A N f (W.take k))) (I:=fun k=>k<=W.length) (m:=fun k=>W.length - k) 0 hw (yn0 _) ?_;intro k hk R hn' hr hx';have e1:=i64s k;by_cases hlt:k<W.length
 ·have hend:∀ st',Weak st' (n4S A U W N (k+1) (fwd A N f (W.take (k+1))))->R .normal st':=fun st' h=>hn' (k+1) st' h (by omega) (by omega);rw[List.take_succ_eq_append_getElem hlt,zi9]at hend;have hb:∀ t,fwd A N f (W.take k) t<=2048^k:=by intro t;have:=z4h hA hf (W.take k) 0 (by simpa using hf) t;rw[List.length_take,Nat.min_eq_left hk,Nat.zero_add]at this;exact this
  obtain⟨l0,l1⟩:=hWl _ (ym7 hlt);generalize fwd A N f (W.take k)=f1 at *
  simp[g.pn,n4S,mkSt,hlt];refine zae hlt ?_;generalize W[k]'hlt=l at *
  have ev:(zat A).a=A:=rfl;simp[pth,ev,hst,LIM];refine⟨by omega,?_⟩;refine yc8 (A:=A) (U:=U) (W:=W) (N:=N) (wi:=k) (l:=l) (f:=f1) (n:=k) hA (by omega) (by omega) (by omega) hb (Weak.to [4,6,11,12,59,60,61,70,71,72] [((4,0),4),((6,0),6),((80,0),80),((69,0),81)] ?_) ?_
  ·simp only[n3S,zr9];simp[mkSt,zR3,pth,ev,hst]
  simp[n3S,mkSt,e1];exact hend _ (Weak.to [4,6,8,59,60,61] [((4,0),4),((6,0),6),((81,0),80)] (by simp[n4S,mkSt,zR3]))
 ·have:k=W.length:=by omega
  subst this;rw[yml]at *
  simp[g.pn,n4S,mkSt];refine hx' _ _ ?_;simpa[n4S,mkSt]using hx
noncomputable def bgN(A:GAuto)(k t:Nat):Nat:=if t<k/\nzI A t=true then 1 else 0
def n1S(A:GAuto)(U:List Bool)(W:List Int)(N k:Nat)(f:Nat->Nat):St :=
 mkSt [(1,.p (.sl (ens W))),(4,.ptr 4 0 0 0),(6,.ptr 6 0 0 0),(8,.own 80 0 0 N),(43,.p (.int .i64 N)),(44,.p (.int .i64 k))]
  [(4,⟨3,[zR3]⟩),(6,⟨9,[.p (enc (pth A U))]⟩),(80,⟨3,avs (rowG N f)⟩)]
theorem yda{A:GAuto}{N:Nat}(hN:N<=64)(hil:A.ini.length=N)(hism:∀ w∈A.ini,w.sm 1048576){U:List Bool}{W:List Int}
  {Q:Exit->St->Prop} {ks:List Kt} {st:St} (hw:Weak st (n1S A U W N 0 fun _=>0)) (hx:zb8 P 119 Q (zay 1 ks) 1 (n1S A U W N N (bgN A N))):vL P 119 Q g.pj ks st:=by
 have hz:(fun _=>0)=bgN A 0:=by funext t;simp[bgN]
 rw[hz]at hw;refine zag (S:=fun k:Nat=>n1S A U W N k (bgN A k)) (I:=fun k=>k<=N) (m:=fun k=>N - k) 0 hw (yn0 _) ?_;intro k hk R hn' hr hx';have e1:=i64s k;by_cases hlt:k<N
 ·have hend:∀ st',Weak st' (n1S A U W N (k+1) (bgN A (k+1)))->R .normal st':=fun st' h=>hn' (k+1) st' h (by omega) (by omega);have hb:Sp P F.bj [enc (zat A),.int .i64 (k:Nat)] (.pure (.bool (nzI A k))):=begF hil hism k hlt;have hs:bgN A (k+1)=fun t=>if t=k then(if nzI A k=true then 1 else 0)else bgN A k t:=by
   funext t;unfold bgN;by_cases e:t=k
   ·subst e;simp
   ·have:t<k+1 ↔ t<k:=by omega
    simp[e,this]
  have h0:bgN A k k=0:=by simp[bgN]
  have hrow:k<(rowG N (bgN A k)).length:=by rw[zeb];exact hlt
  simp[g.pj,n1S,mkSt,hlt,pth];refine zab hb ?_;cases hc:nzI A k with
  | false =>
   rw[hc]at hs;have hs2:bgN A (k+1)=bgN A k:=by
    rw[hs];funext t;by_cases e:t=k
    ·subst e;simp[h0]
    ·simp[e]
   rw[hs2]at hend;simp[e1];exact hend _ (Weak.to [1,4,6,8,43,44] [((4,0),4),((6,0),6),((80,0),80)] (by simp[n1S,mkSt,zR3,pth]))
  | true =>
   rw[hc]at hs;simp only[ym2]at hs;rw[hs]at hend;simp;refine zab ygp ?_;simp[hlt,zeb,e1];refine zae hrow ?_;have hset:=zwn N (bgN A k) k 1;rw[z4u]at hset;rw[hset];exact hend _ (Weak.to [1,4,6,8,43,44] [((4,0),4),((6,0),6),((80,0),80)] (by simp[n1S,mkSt,zR3,pth]))
 ·have:k=N:=by omega
  subst this;simp[g.pj,n1S,mkSt];refine hx' _ _ ?_;simpa[n1S,mkSt]using hx
noncomputable def smE(A:GAuto)(f:Nat->Nat):Nat->Nat
 | 0=>0
 | k+1=>if nzF A k=true then smE A f k+f k else smE A f k
theorem z1l{A:GAuto}{f:Nat->Nat}{B:Nat}(hf:∀ t,f t<=B):∀ k,smE A f k<=k*B
 | 0=>yn0 _
 | k+1=>by have ih:=z1l (A:=A) hf k;have:=hf k;rw[yo2,smE];split<;>omega
def n5S(A:GAuto)(U:List Bool)(N k:Nat)(f:Nat->Nat)(s:Nat):St :=
 mkSt [(4,.ptr 4 0 0 0),(6,.ptr 6 0 0 0),(17,.ptr 17 0 0 0),(103,.own 80 0 0 N),(104,.p (.int .i64 N)),(105,.p (.int .i64 k))]
  [(4,⟨3,[zR3]⟩),(6,⟨9,[.p (enc (pth A U))]⟩),(17,⟨3,[.p (enc (natR s))]⟩),(80,⟨3,avs (rowG N f)⟩)]
theorem yc6{A:GAuto}{N:Nat}(hN:N<=64)(hfl:A.fin.length=N)(hfsm:∀ w∈A.fin,w.sm 1048576){U:List Bool}{f:Nat->Nat}{n:Nat}(hn:n<=998)(hf:∀ t,f t<=2048^n)
  {Q:Exit->St->Prop} {ks:List Kt} {st:St} (hw:Weak st (n5S A U N 0 f 0)) (hx:zb8 P 119 Q (zay 9 ks) 9 (n5S A U N N f (smE A f N))):vL P 119 Q g.po ks st:=by
 refine zag (S:=fun k:Nat=>n5S A U N k f (smE A f k)) (I:=fun k=>k<=N) (m:=fun k=>N - k) 0 hw (yn0 _) ?_;intro k hk R hn' hr hx';have e1:=i64s k;by_cases hlt:k<N
 ·have hend:∀ st',Weak st' (n5S A U N (k+1) f (smE A f (k+1)))->R .normal st':=fun st' h=>hn' (k+1) st' h (by omega) (by omega);have hb:Sp P F.bp [enc (zat A),.int .i64 (k:Nat)] (.pure (.bool (nzF A k))):=endF hfl hfsm k hlt;have b1:smE A f k<=2048^(n+1):=by have h1:=z1l (A:=A) hf k;have h2:k*2048^n<=2048*2048^n:=yn1 _ (by omega);rw[ymm,ymo];omega
  have b2:f k<=2048^(n+1):=ym6 (hf k) (yn4 (by omega) (by omega));have hs:smE A f (k+1)=if nzF A k=true then smE A f k+f k else smE A f k:=rfl
  rw[hs]at hend;have hrow:k<(rowG N f).length:=by rw[zeb];exact hlt
  have g1:(rowG N f)[k]=natR (f k):=zp4 _ _;generalize smE A f k=s0 at *
  simp[g.po,n5S,mkSt,hlt];refine⟨by rw[zeb];omega,zae hrow ?_⟩;rw[g1];simp[pth];refine zab hb ?_;cases hc:nzF A k with
  | false =>
   rw[hc]at hend;simp[e1];exact hend _ (Weak.to [4,6,17,103,104,105] [((4,0),4),((6,0),6),((17,0),17),((80,0),80)] (by simp[n5S,mkSt,zR3,pth]))
  | true =>
   rw[hc]at hend;simp only[ym2]at hend;simp;refine zab (zid (natR s0) (natR (f k)) (zyn b1 (by omega)) (zyn b2 (by omega))) ?_;rw[zxb];simp[e1];exact hend _ (Weak.to [4,6,17,103,104,105] [((4,0),4),((6,0),6),((17,0),17),((80,0),80)] (by simp[n5S,mkSt,zR3,pth]))
 ·have:k=N:=by omega
  subst this;simp[g.po,n5S,mkSt];refine hx' _ _ ?_;simpa[n5S,mkSt]using hx
theorem zxr{a:GAuto}{n:Nat}(h:Lk a n):Sp P F.an [enc a,.bool false] (.pure (.tup [enc (pth a.nf (usV a.nf a.st.toNat)),.int .i64 0])):=by
 have hA:=h.ctr;have hv:=z0h a n h.n90 h.n3 h.sm h.al;have he:=zro (zat a.nf) (by have:=hA.al;show a.nf.arcs.length<=_;omega);have hu:=zrs hA h.il h.ism;have hN:=hA.N1;have hel:(usV a.nf a.st.toNat).length=a.st.toNat:=zbf _ _ _ _;have h0:((zat a.nf).a.arcs.any fun x=>decide (x.l=0))=false:=by rw[List.any_eq_false];intro x hx;simpa using h.l0 x hx
 rw[h0]at he;rw[h.vb]at hv;simp only[ym2]at hv;generalize usV a.nf a.st.toNat=U at *
 generalize a.nf=A at *
 refine Sp.vz c.an fun _=>?_;simp[g.an];refine zab hv ?_;simp;refine zab he ?_;simp;refine zdh hu (by simp) ⟨by simp[ens],by omega,by simp[-zas,ens,LIM,hel];omega⟩ _ rfl ?_;simp[hel,pth];rw[<- hel,yml]
noncomputable def cntA(A:GAuto)(N:Nat)(w:List Int):Nat:=smE A (fwd A N (bgN A N) w) N
theorem zq9{a:GAuto}{n:Nat}(h:Lk a n){w:List Int}(hw:w.length<=256)(hl:∀ x∈w,1<=x/\x<=a.sy):Sp P F.az [enc a,.sl (ens w)] (.pure (.tup [enc (natR (cntA a.nf a.st.toNat w)),.int .i64 0])):=by
 have hA:=h.ctr;have ok:=GAuto.vb_iff.1 h.vb;have s1:=ok.sy1;have s2:=ok.sy2;have hlo:=zxr h;have hwv:=z0d w a.sy (by omega);rw[decide_eq_true (show(1<=a.sy/\a.sy<=32)/\w.length<=256/\∀ x∈w,1<=x/\x<=a.sy from ⟨⟨s1,s2⟩,hw,hl⟩)]at hwv;have hwl:∀ x∈w,1<=x/\x<=32:=fun x hx=>⟨(hl x hx).1,by have:=(hl x hx).2;omega⟩;have il:=h.il;have ism:=h.ism;have fl:=hA.fl;have fsm:=h.fsm;have hN:=hA.N1;have hst:a.nf.st=(a.st.toNat:Int):=hA.inN.st;have hf1:∀ t,bgN a.nf a.st.toNat t<=1:=fun t=>by unfold bgN;split<;>omega
 have hb:∀ t,fwd a.nf a.st.toNat (bgN a.nf a.st.toNat) w t<=2048^w.length:=by intro t;have:=z4h hA hf1 w 0 (by simpa using hf1) t;rw[Nat.zero_add]at this;exact this
 have hN0:a.nf.st.toNat=a.st.toNat:=rfl;unfold cntA;generalize usV a.nf a.st.toNat=U at *
 generalize a.nf=A at *
 generalize a.st.toNat=N at *
 have ev:(zat A).a=A:=rfl;refine Sp.vz c.az fun _=>?_;generalize hR:retP [(4,some 3),(5,none)] (.pure (.tup [enc (natR (smE A (fwd A N (bgN A N) w) N)),.int .i64 0]))=R;simp[g.az];refine zab hlo ?_;simp;refine zab hwv ?_;simp[pth,ev,hst,LIM];refine⟨by omega,?_⟩;refine yda (A:=A) (N:=N) (U:=U) (W:=w) hN il ism (Weak.to [1,4,6,8,43,44] [((4,0),4),((6,0),6),((41,0),80)] ?_) ?_
 ·simp only[n1S,zr9];simp[mkSt,zR3,pth,ev,hst]
 simp[n1S,mkSt];refine yc7 (A:=A) (N:=N) (U:=U) (W:=w) hA (by omega) hwl hf1 (Weak.to [4,6,8,59,60,61] [((4,0),4),((6,0),6),((80,0),80)] (by simp[n4S,mkSt,zR3])) ?_;simp[n4S,mkSt];refine yc6 (A:=A) (N:=N) (U:=U) hN fl fsm (n:=w.length) (by omega) hb ((Weak.freezeTo (s:=17) (g:=0) (n:=3) [enc (natR 0)] [] rfl (by simp[zsm,ens]) (by simp) (by simp)).trans (Weak.to [4,6,17,103,104,105] [((4,0),4),((6,0),6),((17,0),17),((80,0),80)] (by simp[n5S,mkSt,zR3,killAll,St.setObj]))) ?_;simp[n5S,mkSt];subst hR;simp
theorem z6p{a:GAuto}{n:Nat}(h:Lk a n):Sp P F.j5 [enc a] (.pure (match stO (tgT a.nf (usV a.nf a.st.toNat)) a.st.toNat (usf (usV a.nf a.st.toNat)) a.sy.toNat (List.range' 0 a.st.toNat)with
  | some (x,y,w)=>.tup [.int .i64 (x:Nat),.int .i64 (y:Nat),.sl (ens w),.bool true,.int .i64 0]
  | none=>.tup [.int .i64 0,.int .i64 0,.sl [],.bool false,.int .i64 0])):=by
 have hA:=h.ctr;have hl:=zuz h;have h16:a.st.toNat<=16:=by have:=h.s16;omega
 have hel:(usV a.nf a.st.toNat).length=a.st.toNat:=zbf _ _ _ _;obtain⟨hsy,hsyA⟩:=h.sy;have hst:=z1d hA h16 hel hsy hsyA;generalize stO (tgT a.nf (usV a.nf a.st.toNat)) a.st.toNat (usf (usV a.nf a.st.toNat)) a.sy.toNat (List.range' 0 a.st.toNat)=r1 at *
 generalize pth a.nf (usV a.nf a.st.toNat)=p at *
 refine Sp.vz c.j5 fun _=>?_;simp[g.j5];refine zab hl ?_;simp;refine zab hst ?_;obtain _|⟨x,y,w⟩:=r1
 ·simp[zuf]
 ·simp[zuf]
def zbx(w:List Int):Nat->List Int
 | 0=>[]
 | k+1=>zbx w k++w
theorem zmv(w:List Int):∀ k,(zbx w k).length=k*w.length
 | 0=>by simp[zbx]
 | k+1=>by rw[zbx,ymy,zmv w k,yo2]
theorem ydd(w:List Int)(k:Nat)(hw:w.length<=1000)(hk:k<=1000):Sp P F.cg [.sl (ens w),.int .i64 (k:Nat)] (.pure (.sl (ens (zbx w k)))):=by
 refine Sp.vz c.cg fun _=>?_;simp[g.cg]
 refine zag (S:=fun i:Nat=>mkSt [(0,.p (.sl (ens w))),(1,.p (.int .i64 k)),(5,.own 5 0 0 (zbx w i).length),(6,.p (.int .i64 i))] [(5,⟨1,avs (zbx w i)⟩)]) (I:=fun i=>i<=k) (m:=fun i=>k - i) 0
  (Weak.nl 5 77 1 rfl (Weak.to [0,1,5,6] [((77,0),5)] (by simp[mkSt,zbx]))) (yn0 _) ?_
 intro i hi R hn hr hx;have e1:=i64s i;by_cases hlt:i<k
 ·have hend:∀ st',Weak st' (mkSt [(0,.p (.sl (ens w))),(1,.p (.int .i64 k)),(5,.own 5 0 0 (zbx w (i+1)).length),(6,.p (.int .i64 (i+1:Nat)))] [(5,⟨1,avs (zbx w (i+1))⟩)])->R .normal st':=fun st' h=>hn (i+1) st' h (by omega) (by omega);have hlen:(zbx w i).length<=1000000:=by rw[zmv];exact ymf (by omega:i<=1000) hw
  rw[show zbx w (i+1)=zbx w i++w from rfl,zce]at hend;generalize zbx w i=M at *
  simp[g.qr,mkSt,hlt,e1,LIM];refine⟨by omega,hend _ (Weak.to [0,1,5,6] [((14,0),5)] ?_)⟩;simp[mkSt]
 ·have:i=k:=by omega
  subst this;simp[g.qr,mkSt];refine hx _ _ ?_;simp
def infW(b:Bool):GW:=.mk gr0 0 b 0 [] []
def btR(N p k:Nat):List GW:=mp N fun s=>if s<k then infW (decide (s≠p))else gw0
def btG(a:GAuto)(N p q:Nat):GAuto:=⟨a.ring,a.sy,a.st,btR N p N,btR N q N,a.arcs⟩
theorem zio(N p k:Nat):(btR N p k).length=N:=zbr _ _
theorem z9r(N p k:Nat):(btR N p k).take N=btR N p k:=ymh (Nat.le_of_eq (zio N p k))
theorem z9q(N p:Nat):avs (btR N p 0)=List.replicate N (.p (enc gw0)):=by
 have:btR N p 0=List.replicate N gw0:=by unfold btR;simp only[yq4,ymb];exact zi3 _ _
 rw[this,zc8]
theorem zvn{N p k:Nat}:(avs (btR N p k)).set k (.p (enc (infW (decide (k≠p)))))=avs (btR N p (k+1)):=by
 have hs:∀ (l:List GW) (i:Nat) (x:GW),(avs l).set i (.p (enc x))=avs (l.set i x):=fun l i x=>by simp[-zas,avs,ens,yoo]
 rw[hs]
 congr 1
 unfold btR;rw[zmp];apply zdm;intro s _;by_cases h:s=k
 ·subst h;simp
 ·have:s<k+1 ↔ s<k:=by omega
  simp[h,this]
theorem zsq{st:St}{n k:Nat}{v:AV}{p:PV}(hv:toPV st (n+1) v=some p):∀ (L:List PV) (k:Nat),((L.map AV.p).set k v).mapM (toPV st (n+1))=some (L.set k p)
 | [],_=>rfl
 | x::L,0=>by
  have h:(L.map AV.p).mapM (toPV st (n+1))=some L:=by
   induction L with
   | nil=>rfl
   | cons y L ih=>rw[ymi,yoe,ih];rfl
  rw[ymi,yqd,yoe,hv,h];rfl
 | x::L,k+1=>by have ih:=zsq (k:=k) hv L k;rw[ymi,List.set_cons_succ,yoe,ih];rfl
theorem ztd{st:St}{n:Nat}{v:AV}(hv:deps st (n+1) v=[]):∀ (L:List PV) (k:Nat),((L.map AV.p).set k v).flatMap (deps st (n+1))=[]
 | [],_=>rfl
 | x::L,0=>by
  have h:(L.map AV.p).flatMap (deps st (n+1))=[]:=by
   induction L with
   | nil=>rfl
   | cons y L ih=>rw[ymi,ymp,ih];rfl
  rw[ymi,yqd,ymp,hv,h];rfl
 | x::L,k+1=>by have ih:=ztd hv L k;rw[ymi,List.set_cons_succ,ymp,ih];rfl
def b1T(a:GAuto)(N p q k:Nat):St :=
 mkSt [(1,.p (.int .i64 (p:Nat))),(2,.p (.int .i64 (q:Nat))),(3,.ptr 3 0 0 0),(6,.ptr 6 0 0 0),(7,.ptr 7 0 0 0),(8,.p (.int .i64 k))]
  [(3,⟨7,[.p (enc a)]⟩),(6,⟨7,[zAu]⟩),(7,⟨7,[.agg [.p (.int .i64 a.ring.kind),.p (.sl (ens a.ring.parts)),.p (.int .i64 a.sy),.p (.int .i64 a.st),.own 12 0 0 N,.own 15 0 0 N,.p (.sl (ens a.arcs))]]⟩),(12,⟨8,avs (btR N p k)⟩),(15,⟨8,avs (btR N q k)⟩)]
theorem frzR{st:St}{s N p k:Nat}{v:AV}(hv:toPV st 3 v=some (enc (infW (decide (k≠p)))))(hd:deps st 3 v=[])(ho:st.obj s 0=some ⟨8,(avs (btR N p k)).set k v⟩):Weak st (st.setObj s 0 ⟨8,avs (btR N p (k+1))⟩):=by have h:=Weak.freezeTo (s:=s) (g:=0) (n:=3) ((ens (btR N p k)).set k (enc (infW (decide (k≠p))))) [] ho (zsq (k:=k) hv _ _) (ztd hd _ _) (by simp);rw[yoo]at h;have e:(List.map AV.p (ens (btR N p k))).set k (.p (enc (infW (decide (k≠p)))))=avs (btR N p (k+1)):=zvn;rw[e]at h;exact h
theorem zz6{a:GAuto}{N p q:Nat}(hN:N<=64)(hst:a.st=(N:Int)):Sp P F.cd [enc a,.int .i64 (p:Nat),.int .i64 (q:Nat)] (.pure (enc (btG a N p q))):=by
 refine Sp.vz c.cd fun _=>?_;simp[g.cd,hst,LIM];refine⟨by omega,?_⟩;refine zag (S:=fun k:Nat=>b1T a N p q k) (I:=fun k=>k<=N) (m:=fun k=>N - k) 0 (Weak.to [1,2,3,6,7,8] [((3,0),3),((6,0),6),((7,0),7),((12,0),12),((15,0),15)] ?_) (yn0 _) ?_
 ·simp only[b1T,z9q];simp[mkSt,zAu,hst,gw0,gr0,ens]
 intro k hk R hn hr hx;have e1:=i64s k;by_cases hlt:k<N
 ·have hend:∀ st',Weak st' (b1T a N p q (k+1))->R .normal st':=fun st' h=>hn (k+1) st' h (by omega) (by omega);have r1:k<(btR N p k).length:=by rw[zio];exact hlt
  have r2:k<(btR N q k).length:=by rw[zio];exact hlt
  have s1:=zvn (N:=N) (p:=p) (k:=k);have s2:=zvn (N:=N) (p:=q) (k:=k);simp[g.qq,b1T,mkSt,hlt,e1,zAu,hst,zio];refine zae r1 (zae r2 (hend _ ((frzR (s:=15) (p:=q) (N:=N) (k:=k) ?_ rfl rfl).trans ((frzR (s:=12) (p:=p) (N:=N) (k:=k) ?_ rfl rfl).trans (Weak.to [1,2,3,6,7,8] [((3,0),3),((6,0),6),((7,0),7),((12,0),12),((15,0),15)] ?_)))))
  ·simp[infW,gr0,ens];omega
  ·simp[infW,gr0,ens];omega
  ·simp[b1T,mkSt,zAu,hst,St.setObj]
 ·have:k=N:=by omega
  subst this;simp[g.qq,b1T,mkSt,zAu,hst];refine hx _ _ ?_;simp[btG,zio,z9r,hst]
end Go.Ab
namespace Go.Ab
def tgc(A:GAuto)(l:Int)(q t:Nat):Nat:=((stpL (za7 A.arcs q) l).filter fun x=>decide (tT x=t)).length
theorem zcm(A:GAuto)(l:Int)(f:Nat->Nat)(q t:Nat):rwN A l f (q+1) t=rwN A l f q t+f q*tgc A l q t:=rfl
theorem zwm(A:GAuto)(l:Int)(f:Nat->Nat)(t:Nat){q r:Nat}(h:q<=r):rwN A l f q t<=rwN A l f r t:=by
 induction h with
 | refl=>exact ym9 _
 | step _ ih=>rw[zcm];omega
theorem ze7(A:GAuto)(l:Int)(f:Nat->Nat){N s:Nat}(h:s<N)(t:Nat):f s*tgc A l s t<=rwN A l f N t:=by have:=zwm A l f t (show s+1<=N from h);rw[zcm]at this;omega
theorem zp1(A:GAuto)(l:Int)(f:Nat->Nat){N s r:Nat}(h:s<r)(hr:r<N)(t:Nat):f s*tgc A l s t+f r*tgc A l r t<=rwN A l f N t:=by have h1:=zwm A l f t (show r+1<=N from hr);have h2:=ze7 A l f h t;rw[zcm]at h1;omega
theorem z13(A:GAuto)(l:Int)(f g:Nat->Nat)(t:Nat):∀ q,rwN A l (fun s=>f s+g s) q t=rwN A l f q t+rwN A l g q t
 | 0=>rfl
 | q+1=>by rw[zcm,zcm,zcm,z13 A l f g t q,yn7];omega
theorem z11(A:GAuto)(l:Int)(c:Nat)(f:Nat->Nat)(t:Nat):∀ q,rwN A l (fun s=>c*f s) q t=c*rwN A l f q t
 | 0=>rfl
 | q+1=>by rw[zcm,zcm,z11 A l c f t q,yn6,ymq]
theorem zr4(A:GAuto)(l:Int){f g:Nat->Nat}(h:∀ s,f s<=g s)(t:Nat):∀ q,rwN A l f q t<=rwN A l g q t
 | 0=>ym9 _
 | q+1=>by have ih:=zr4 A l h t q;have:=yn1 (tgc A l q t) (h q);rw[zcm,zcm];omega
theorem zja(A:GAuto)(N:Nat):∀ (w:List Int) {f g:Nat->Nat},(∀ s,f s<=g s)->∀ t,fwd A N f w t<=fwd A N g w t
 | [],_,_,h,t=>h t
 | l::w,_,_,h,t=>zja A N w (fun s=>zr4 A l h s N) t
theorem z4j(A:GAuto)(N:Nat):∀ (w:List Int) (f g:Nat->Nat) (t:Nat),fwd A N (fun s=>f s+g s) w t=fwd A N f w t+fwd A N g w t
 | [],_,_,_=>rfl
 | l::w,f,g,t=>by
  have e:rwN A l (fun s=>f s+g s) N=fun s=>rwN A l f N s+rwN A l g N s:=by funext s;exact z13 A l f g s N
  show fwd A N (rwN A l (fun s=>f s+g s) N) w t=_;rw[e];exact z4j A N w _ _ t
theorem zq1(A:GAuto)(N:Nat):∀ (w:List Int) (c:Nat) (f:Nat->Nat) (t:Nat),fwd A N (fun s=>c*f s) w t=c*fwd A N f w t
 | [],_,_,_=>rfl
 | l::w,c,f,t=>by
  have e:rwN A l (fun s=>c*f s) N=fun s=>c*rwN A l f N s:=by funext s;exact z11 A l c f s N
  show fwd A N (rwN A l (fun s=>c*f s) N) w t=_;rw[e];exact zq1 A N w c _ t
theorem zq2(A:GAuto)(N:Nat):∀ (v w:List Int) (f:Nat->Nat),fwd A N f (v++w)=fwd A N (fwd A N f v) w
 | [],_,_=>rfl
 | _::v,w,_=>zq2 A N v w _
def one1(s t:Nat):Nat:=if t=s then 1 else 0
def npc(A:GAuto)(N:Nat)(w:List Int)(s t:Nat):Nat:=fwd A N (one1 s) w t
theorem z4i(A:GAuto)(N:Nat)(w:List Int)(f:Nat->Nat)(s t:Nat):f s*npc A N w s t<=fwd A N f w t:=by unfold npc;rw[<- zq1];exact zja A N w (fun r=>by unfold one1;split<;>simp_all) t
theorem ydy(A:GAuto)(N:Nat)(w:List Int)(f:Nat->Nat){s r:Nat}(h:s≠r)(t:Nat):f s*npc A N w s t+f r*npc A N w r t<=fwd A N f w t:=by
 unfold npc;rw[<- zq1,<- zq1,<- z4j];refine zja A N w (fun q=>?_) t;unfold one1;by_cases h1:q=s
 ·subst h1;simp[h]
 ·by_cases h2:q=r
  ·subst h2;simp[h1]
  ·simp[h1,h2]
theorem z26{A:GAuto}{N:Nat}{w:List Int}{s:Nat}(h:2<=npc A N w s s):∀ k,2^k<=npc A N (zbx w k) s s
 | 0=>by simp[zbx,npc,fwd,one1]
 | k+1=>by
  have ih:=z26 h k;have h1:=z4i A N w (fwd A N (one1 s) (zbx w k)) s s;have e:npc A N (zbx w (k+1)) s s=fwd A N (fwd A N (one1 s) (zbx w k)) w s:=by unfold npc;rw[zbx,zq2]
  rw[e];refine ym6 ?_ h1;rw[ymm];exact ymf ih h
theorem zw6{A:GAuto}{N:Nat}{w:List Int}{s:Nat}(h:1<=npc A N w s s):∀ k,1<=npc A N (zbx w k) s s
 | 0=>by simp[zbx,npc,fwd,one1]
 | k+1=>by
  have ih:=zw6 h k;have h1:=z4i A N w (fwd A N (one1 s) (zbx w k)) s s;have e:npc A N (zbx w (k+1)) s s=fwd A N (fwd A N (one1 s) (zbx w k)) w s:=by unfold npc;rw[zbx,zq2]
  rw[e];exact ym6 (ymf ih h) h1
theorem zw5{A:GAuto}{N:Nat}{w:List Int}{x y:Nat}(hxy:x≠y)(h1:1<=npc A N w x x)(h2:1<=npc A N w x y)(h3:1<=npc A N w y y):∀ k,k<=npc A N (zbx w k) x y
 | 0=>yn0 _
 | k+1=>by
  have ih:=zw5 hxy h1 h2 h3 k;have hl:=zw6 h1 k;have hg:=ydy A N w (fwd A N (one1 x) (zbx w k)) hxy y;have e:npc A N (zbx w (k+1)) x y=fwd A N (fwd A N (one1 x) (zbx w k)) w y:=by unfold npc;rw[zbx,zq2]
  rw[e];have a1:1*1<=fwd A N (one1 x) (zbx w k) x*npc A N w x y:=ymf hl h2;have a2:k*1<=fwd A N (one1 x) (zbx w k) y*npc A N w y y:=ymf ih h3;omega
theorem ygz:infW false=gw0:=rfl
theorem ygy:infW true=GRing.zero ⟨2,[]⟩:=z4g
theorem yeg(a:GAuto)(N p q:Nat):(btG a N p q).nf.arcs=a.nf.arcs:=rfl
theorem yaf(a:GAuto)(N p q:Nat)(l:Int)(f:Nat->Nat):∀ k,rwN (btG a N p q).nf l f k=rwN a.nf l f k
 | 0=>rfl
 | k+1=>by show adN _ _ _=adN _ _ _;rw[yaf a N p q l f k,yeg]
theorem yaw(a:GAuto)(N p q M:Nat):∀ (w:List Int) (f:Nat->Nat),fwd (btG a N p q).nf M f w=fwd a.nf M f w
 | [],_=>rfl
 | l::w,f=>by show fwd _ _ (rwN _ _ _ _) w=fwd _ _ (rwN _ _ _ _) w;rw[yaf,yaw a N p q M w]
theorem ya0{N p t:Nat}(h:t<N):decide ((btR N p N).getD t (GRing.zero ⟨2,[]⟩)≠GRing.zero ⟨2,[]⟩)=decide (t=p):=by
 have e:(btR N p N).getD t (GRing.zero ⟨2,[]⟩)=infW (decide (t≠p)):=by unfold btR;rw[ym8,yma (by rw[zbr];exact h),ynj,zdv,ym0 h]
 rw[e];by_cases hp:t=p
 ·subst hp;have:(decide (t≠t))=false:=by simp
  rw[this,ygz];simpa using zo9
 ·have:(decide (t≠p))=true:=by simpa using hp
  rw[this,ygy];simp[hp]
theorem yh5{a:GAuto}(hr:a.ring=⟨2,[]⟩){N p q t:Nat}(h:t<N):nzI (btG a N p q).nf t=decide (t=p):=by have e:(btG a N p q).nf.ring=⟨2,[]⟩:=hr;unfold nzI;rw[e];exact ya0 h
theorem yh6{a:GAuto}(hr:a.ring=⟨2,[]⟩){N p q t:Nat}(h:t<N):nzF (btG a N p q).nf t=decide (t=q):=by have e:(btG a N p q).nf.ring=⟨2,[]⟩:=hr;unfold nzF;rw[e];exact ya0 h
theorem zwl{A:GAuto}{f:Nat->Nat}{q r:Nat}(h:q<=r):smE A f q<=smE A f r:=by
 induction h with
 | refl=>exact ym9 _
 | step _ ih=>rw[smE];split<;>omega
theorem z1n{A:GAuto}{f:Nat->Nat}{N q:Nat}(h:q<N)(hz:nzF A q=true):f q<=smE A f N:=by have h1:=zwl (A:=A) (f:=f) (show q+1<=N from h);rw[smE,ym0 hz]at h1;omega
theorem yh0{a:GAuto}(hr:a.ring=⟨2,[]⟩){N p q:Nat}(hp:p<N)(hq:q<N)(w:List Int):npc a.nf N w p q<=cntA (btG a N p q).nf N w:=by
 unfold cntA;rw[yaw];have h1:=z1n (A:=(btG a N p q).nf) (f:=fwd a.nf N (bgN (btG a N p q).nf N) w) hq (by rw[yh6 hr hq];simp);refine ym6 ?_ h1;unfold npc;refine zja a.nf N w (fun s=>?_) q;unfold one1 bgN;by_cases hs:s=p
 ·subst hs;rw[ym0 rfl,ym0 ⟨hp,by rw[yh5 hr hp];simp⟩];exact ym9 _
 ·rw[yl9 hs];exact yn0 _
theorem zho(A:GAuto)(N:Nat)(w:List Int)(l:Int)(s t:Nat):npc A N (w++[l]) s t=rwN A l (npc A N w s) N t:=by unfold npc;rw[zi9]
theorem zh9{A:GAuto}{U:List Bool}{q l t:Nat}(h:t∈tgT A U q l):1<=tgc A l q t:=by unfold tgT tgS at h;obtain⟨x,hx,e⟩:=List.mem_map.1 (List.mem_filter.1 h).1;unfold tgc;exact List.length_pos_of_mem (List.mem_filter.2 ⟨hx,by simpa using e⟩)
def Gd(A:GAuto)(N s:Nat)(w:List Int)(k:Nat):Prop:=∃ a b d,a<N/\b<N/\k=nod N a b d/\1<=npc A N w s a/\1<=npc A N w s b/\(d=true->a=b->2<=npc A N w s a)
theorem ykv{A:GAuto}{N:Nat}(hA:CtrOk A N){U:List Bool}(hU:U.length=N){sy s:Nat}(hs:s<N){w:List Int}{k:Nat}(h:Ld (nx2 (tgT A U) N) sy [nod N s s false] w k):Gd A N s w k:=by
 induction h with
 | nil h =>
  rw[ymj]at h;subst h;exact⟨s,s,false,hs,hs,rfl,by simp[npc,fwd,one1],by simp[npc,fwd,one1],fun h=>by cases h⟩
 | snoc h h1 h2 h3 ih =>
  rename_i w m l n;obtain⟨a,b,d,ha,hb,rfl,p1,p2,p3⟩:=ih;obtain⟨x,y,hx,hy,rfl⟩:=zek.1 h3;rw[zhv hb]at hx;rw[zhu hb]at hy;have tx:=(zh2 hA hU).t _ _ _ hx;have ty:=(zh2 hA hU).t _ _ _ hy;have cx:=zh9 hx;have cy:=zh9 hy;have g1:1<=npc A N (w++[(l:Int)]) s x:=by rw[zho];exact ym6 (ymf p1 cx) (ze7 A l (npc A N w s) ha x)
  have g2:1<=npc A N (w++[(l:Int)]) s y:=by rw[zho];exact ym6 (ymf p2 cy) (ze7 A l (npc A N w s) hb y)
  refine⟨x,y,_,tx.1,ty.1,rfl,g1,g2,fun hd hxy=>?_⟩;subst hxy;rw[zih]at hd;rw[zho];by_cases hab:a=b
  ·subst hab;have hd2:d=true:=by simpa using hd
   exact ym6 (ymf (p3 hd2 rfl) cx) (ze7 A l (npc A N w s) ha x)
  ·have a1:=ymf p1 cx;have a2:=ymf p2 cy;rcases Nat.lt_or_gt_of_ne hab with hlt|hlt
   ·have:=zp1 A l (npc A N w s) hlt hb x;omega
   ·have:=zp1 A l (npc A N w s) hlt ha x;omega
def G3(A:GAuto)(N a b:Nat)(w:List Int)(k:Nat):Prop:=∃ x y z,x<N/\y<N/\z<N/\k=(x*N+y)*N+z/\1<=npc A N w a x/\1<=npc A N w a y/\1<=npc A N w b z
theorem yfl{N x y z:Nat}(hz:z<N):((x*N+y)*N+z) % N=z:=by rw[ymo,ypa,ynf hz]
theorem yfm{N x y z:Nat}(hz:z<N):((x*N+y)*N+z) / N=x*N+y:=by rw[ymo,yp9 (by omega),yo0 hz,ymx]
theorem ykw{A:GAuto}{N:Nat}(hA:CtrOk A N){U:List Bool}(hU:U.length=N){sy a b:Nat}(ha:a<N)(hb:b<N){w:List Int}{k:Nat}(h:Ld (nx3 (tgT A U) N) sy [(a*N+a)*N+b] w k):G3 A N a b w k:=by
 induction h with
 | nil h =>
  rw[ymj]at h;subst h;exact⟨a,a,b,ha,ha,hb,rfl,by simp[npc,fwd,one1],by simp[npc,fwd,one1],by simp[npc,fwd,one1]⟩
 | snoc h h1 h2 h3 ih =>
  rename_i w m l n;obtain⟨x,y,z,hx,hy,hz,rfl,p1,p2,p3⟩:=ih;obtain⟨x',y',z',qx,qy,qz,rfl⟩:=zj2.1 h3;rw[yfm hz]at qx qy;rw[yfl hz]at qz;rw[show(x*N+y) % N=y by rw[ymo,ypa,ynf hy]]at qy;rw[show(x*N+y) / N=x by rw[ymo,yp9 (by omega),yo0 hy,ymx]]at qx;have tx:=(zh2 hA hU).t _ _ _ qx;have ty:=(zh2 hA hU).t _ _ _ qy;have tz:=(zh2 hA hU).t _ _ _ qz;refine⟨x',y',z',tx.1,ty.1,tz.1,rfl,?_,?_,?_⟩
  ·rw[zho];exact ym6 (ymf p1 (zh9 qx)) (ze7 A l (npc A N w a) hx x')
  ·rw[zho];exact ym6 (ymf p2 (zh9 qy)) (ze7 A l (npc A N w a) hy y')
  ·rw[zho];exact ym6 (ymf p3 (zh9 qz)) (ze7 A l (npc A N w b) hz z')
section
variable {goal:Nat->Bool} {nxt:Nat->Nat->List Nat}
def GrLn(sz:Nat)(q:List Grp)(s:List Bool):Prop:=∀ g∈q,g.2≠[]->g.1.length+1+us s<=sz
theorem zl2{sz:Nat}{w:List Int}{g:List Nat}:∀ (ls:List Nat) (q:List Grp) (s:List Bool) (r:Option (List Int)) (q':List Grp) (s':List Bool),
  ze6 goal nxt w g ls q s=(r,q',s')->(g≠[]->w.length+1+us s<=sz)->GrLn sz q s->(∀ v,r=some v->v.length+1<=sz)/\(r=none->GrLn sz q' s')
 | [],q,s,r,q',s',h,_,hq=>by
  simp only[ze6,ym4]at h;obtain⟨rfl,rfl,rfl⟩:=h;exact⟨fun v hv=>(by cases hv),fun _=>hq⟩
 | l::ls,q,s,r,q',s',h,hg,hq=>by
  have ih:=zl2 (sz:=sz) (w:=w) (g:=g) ls;rw[ze6]at h;have hn:g=[]->(Sx.nx goal nxt l ⟨s,[],false⟩ g).f=[]:=by rintro rfl;rfl
  have hu:us (Sx.nx goal nxt l ⟨s,[],false⟩ g).s+(Sx.nx goal nxt l ⟨s,[],false⟩ g).f.length=us s:=by rw[zy7];exact zyt _ _
  generalize Sx.nx goal nxt l ⟨s,[],false⟩ g=x at *
  split at h
  ·rename_i hf;rw[hf,yo4,ymx]at hu;exact ih q x.s r q' s' h (by rw[hu];exact hg) (by unfold GrLn;rw[hu];exact hq)
  ·rename_i hf;have hg1:=hg fun e=>hf (hn e);have hx:1<=x.f.length:=yod.2 hf;split at h
   ·simp only[ym4]at h;obtain⟨rfl,_,_⟩:=h;refine⟨fun v hv=>?_,fun h=>by cases h⟩;simp only[ym1]at hv;subst hv;rw[ymy,ynl];omega
   ·refine ih _ x.s r q' s' h (fun _=>by omega) ?_;intro y hy hne;rcases ymc.1 hy with hy|hy
    ·have:=hq y hy hne;omega
    ·rw[ymj]at hy;subst hy;show(w++[(l:Int)]).length+1+us x.s<=sz;rw[ymy,ynl];omega
theorem z07{sz sy:Nat}:∀ (n:Nat) (q:List Grp) (s:List Bool) (v:List Int),GrLn sz q s->sxQ goal nxt sy n q s=some v->v.length+1<=sz
 | 0,_,_,_,_,h=>by simp[sxQ]at h
 | _+1,[],_,_,_,h=>by simp[sxQ]at h
 | n+1,g::q,s,v,hq,h=>by
  rw[sxQ]at h;have hg:=hq g yne;have hq2:GrLn sz q s:=fun x hx=>hq x (ymr _ hx);split at h
  ·rename_i v' q' s' e;simp only[ym1]at h;subst h;exact(zl2 _ _ _ _ _ _ e hg hq2).1 _ rfl
  ·rename_i q' s' e;exact z07 n q' s' v ((zl2 _ _ _ _ _ _ e hg hq2).2 rfl) h
theorem yff(n:Nat):us (List.replicate n false)=n:=by simp[us]
theorem z06{sy size:Nat}{beg:List Nat}{v:List Int}(h:sx goal nxt sy size beg=some v)(hv:v≠[]):v.length+1<=size:=by
 unfold sx at h;have hu:=zyt (goal:=goal) beg ⟨List.replicate size false,[],false⟩;generalize Sx.vs goal ⟨List.replicate size false,[],false⟩ beg=x at *
 simp only[yff,yo4,ymx]at hu;split at h
 ·simp only[ym1]at h;exact absurd h.symm hv
 ·refine z07 _ _ _ _ ?_ h;intro g hg hne;rw[ymj]at hg;subst hg;have:1<=x.f.length:=yod.2 hne;show([]:List Int).length+1+us x.s<=size;rw[yo4];omega
theorem Ld.lab{sy:Nat}{beg:List Nat}{w:List Int}{n:Nat}(h:Ld nxt sy beg w n):∀ x∈w,1<=x/\x<=(sy:Int):=by
 induction h with
 | nil _=>intro x hx;cases hx
 | snoc h h1 h2 h3 ih =>
  intro x hx;rcases ymc.1 hx with hx|hx
  ·exact ih x hx
  ·rw[ymj]at hx;omega
end
theorem zxm{T:Nat->Nat->List Nat}{N:Nat}{U:Nat->Bool}{sy:Nat}{q:Nat}{w:List Int}:∀ l:List Nat,lpG T N U sy l=some (q,w)->q∈l/\tw2 T N (fun s=>U s&&slf q s) (slf q) sy=some w
 | [],h=>by simp[lpG]at h
 | x::l,h=>by
  rw[lpG]at h;split at h
  ·rename_i v e;simp only[ym1,ym4]at h;obtain⟨rfl,rfl⟩:=h;exact⟨yne,e⟩
  ·have:=zxm l h;exact⟨ymr _ this.1,this.2⟩
theorem zpv{T:Nat->Nat->List Nat}{N:Nat}{U:Nat->Bool}{sy a:Nat}{b:Nat}{w:List Int}:∀ l:List Nat,stI T N U sy a l=some (b,w)->b∈l/\a≠b/\th3 T N a b sy=some w
 | [],h=>by simp[stI]at h
 | x::l,h=>by
  rw[stI]at h;split at h
  ·have:=zpv l h;exact⟨ymr _ this.1,this.2⟩
  ·rename_i hc;split at h
   ·rename_i v e;simp only[ym1,ym4]at h;obtain⟨rfl,rfl⟩:=h;exact⟨yne,fun e=>hc (.inl e),e⟩
   ·have:=zpv l h;exact⟨ymr _ this.1,this.2⟩
theorem zwi{T:Nat->Nat->List Nat}{N:Nat}{U:Nat->Bool}{sy a b:Nat}{w:List Int}:∀ l:List Nat,stO T N U sy l=some (a,b,w)->a∈l/\b<N/\a≠b/\th3 T N a b sy=some w
 | [],h=>by simp[stO]at h
 | x::l,h=>by
  rw[stO]at h;split at h
  ·rename_i b' v e;simp only[ym1,ym4]at h;obtain⟨rfl,rfl,rfl⟩:=h;have:=zpv _ e;exact⟨yne,yna.1 this.1,this.2⟩
  ·have:=zwi l h;exact⟨ymr _ this.1,this.2⟩
theorem z3t{A:GAuto}{N:Nat}(hA:CtrOk A N){U:List Bool}(hU:U.length=N){sy q:Nat}{w:List Int}(hq:q<N)(h:tw2 (tgT A U) N (fun s=>usf U s&&slf q s) (slf q) sy=some w) :
  2<=npc A N w q q/\w≠[]/\w.length+1<=2*N*N/\∀ x∈w,1<=x/\x<=(sy:Int):=by
 unfold tw2 at h;obtain⟨n,h1,h2⟩:=zpp h;have hl:=h1.lab;obtain⟨n',h3,rfl⟩:=h1.map (nxt':=nx2 (tgT A U) N) (beg':=[nod N q q false]) (R:=Eq) (fun n hn=>by
  obtain⟨a,b,_,_,ha,hb,rfl⟩:=ze8.1 hn;simp only[ymd,slf,decide_eq_true_eq]at ha hb;obtain⟨_,rfl⟩:=ha;obtain⟨_,rfl⟩:=hb;exact⟨_,ymj.2 rfl,rfl⟩) (fun m m' l n _ _ e hn=>by subst e;exact⟨n,hn,rfl⟩)
 obtain⟨a,b,d,ha,hb,rfl,p1,p2,p3⟩:=ykv hA hU hq h3;unfold gl2 at h2;rw[zhv hb,zhu hb,zih]at h2;simp only[ymd,slf,decide_eq_true_eq,yp5]at h2;obtain⟨⟨h4,h6⟩,h7⟩:=h2;have h5:2<=npc A N w q q:=by
  have:=p3 (by rcases h4 with h|h;exact h;exact absurd (h6.trans h7.symm) h) (h6.trans h7.symm)
  rwa[h6]at this
 have hne:w≠[]:=by rintro rfl;simp[npc,fwd,one1]at h5
 exact⟨h5,hne,z06 h hne,hl⟩
theorem z1c{A:GAuto}{N:Nat}(hA:CtrOk A N){U:List Bool}(hU:U.length=N){sy a b:Nat}{w:List Int}(ha:a<N)(hb:b<N)(hab:a≠b)(h:th3 (tgT A U) N a b sy=some w) :
  1<=npc A N w a a/\1<=npc A N w a b/\1<=npc A N w b b/\w≠[]/\w.length+1<=N*N*N/\∀ x∈w,1<=x/\x<=(sy:Int):=by
 unfold th3 at h;obtain⟨n,h1,h2⟩:=zpp h;have hl:=h1.lab;obtain⟨x,y,z,hx,hy,hz,rfl,p1,p2,p3⟩:=ykw hA hU ha hb h1;simp only[decide_eq_true_eq]at h2;obtain⟨e1,e2,e3⟩:=zh1 (x:=x) hy hz;obtain⟨f1,f2,f3⟩:=zh1 (x:=a) hb hb;rw[h2]at e1 e2 e3;rw[f1]at e1;rw[f2]at e2;rw[f3]at e3;subst e1;subst e2;subst e3;have hne:w≠[]:=by rintro rfl;simp[npc,fwd,one1,ynr hab]at p2
 exact⟨p1,p2,p3,hne,z06 h hne,hl⟩
end Go.Ab
namespace Go.Ab
open Enc (enc)
attribute [local simp] zaj Opd.slots
theorem zu4(b:Bool):tw (infW b) 5:=by
 cases b
 ·exact zi8
 ·exact znd
theorem zvo{N p:Nat}{w:GW}(h:w∈btR N p N):∃ b,w=infW b:=by obtain⟨i,hi,rfl⟩:=zso h;exact⟨_,by rw[ym0 hi]⟩
theorem ylk{a:GAuto}(h:Md a)(p q:Nat):Lk (btG a a.st.toNat p q) 3:=by
 have ok:=GAuto.vb_iff.1 h.lk.vb;have r:=h.ring;have hc:∀ N p,∀ w∈btR N p N,w.chk a.ring:=fun N p w hw=>by obtain⟨b,rfl⟩:=zvo hw;rw[r];exact zgo (zu4 b) (by omega)
 have e2:(a.st.toNat:Int)=a.st:=by have:=ok.st1;omega
 refine⟨by omega,by omega,⟨fun w hw=>?_,fun w hw=>?_,fun x hx=>h.lk.sm.arcs x hx⟩,h.lk.al,GAuto.vb_iff.2 ?_,fun x hx=>h.lk.l0 x hx,h.lk.s16⟩
 ·obtain⟨b,rfl⟩:=zvo hw;exact zlw (zu4 b)
 ·obtain⟨b,rfl⟩:=zvo hw;exact zlw (zu4 b)
 ·refine⟨ok.ring,ok.sy1,ok.sy2,ok.st1,ok.st2,?_,?_,ok.al,ok.arcs,fun w hw=>hc _ _ w hw,fun w hw=>hc _ _ w hw⟩
  ·show((btR _ _ _).length:Int)=a.st;rw[zio];exact e2
  ·show((btR _ _ _).length:Int)=a.st;rw[zio];exact e2
theorem zvl{a:GAuto}{n:Nat}(h:Lk a n){w:List Int}(hw:w.length<=256):cntA a.nf a.st.toNat w<4294967296^1048576:=by
 have hA:=h.ctr;have hN:=hA.N1;have hf1:∀ t,bgN a.nf a.st.toNat t<=1:=fun t=>by unfold bgN;split<;>omega
 have hb:∀ t,fwd a.nf a.st.toNat (bgN a.nf a.st.toNat) w t<=2048^w.length:=by intro t;have:=z4h hA hf1 w 0 (by simpa using hf1) t;rw[Nat.zero_add]at this;exact this
 have h1:=z1l (A:=a.nf) hb a.st.toNat;have h2:a.st.toNat*2048^w.length<=2048*2048^w.length:=yn1 _ (by omega);have h3:2048*2048^w.length=2048^(w.length+1):=by rw[ymm,ymo]
 have h4:2048^(w.length+1)<4294967296^(w.length+1):=Nat.pow_lt_pow_left (by omega) (by omega);have h5:=ygc 4294967296 (w.length+1) 1048576 (by omega) (by omega);unfold cntA;omega
theorem yan(n:Nat)(hn:n<=9223372036854775807):Sp P F.ai [.int .i64 (n:Nat),.int .i64 1] (.pure (.tup [enc (natR n),.int .i64 0])):=by
 have h:=zxj (n:Int) 1 (by omega) (by omega);have e:rto (Rat.divInt (n:Int) 1)=natR n:=by rw[<- zp3];congr 1;have:=Rat.divInt_ofNat (n:Int) 1;rw[show((1:Nat):Int)=1 from rfl]at this;rw[this];simp[Rat.mkRat_one];rfl
 simp only[show ¬ ((1:Int)=0) by omega,ymb,e]at h;exact h
theorem zsp{p:GPlan}:(zgj wkT p 4).st<=4:=by have hnr:=zck p.st (show(1:Int)<=4+1 by omega);show((autN p 4:Nat):Int)<=4;unfold autN;omega
theorem zsr{w:List Int}{x:Int}:∀ {k:Nat},x∈zbx w k->x∈w
 | 0,h=>by simp[zbx]at h
 | k+1,h=>by
  rw[zbx]at h;rcases ymc.1 h with h|h
  ·exact zsr h
  ·exact h
theorem yal{a:GAuto}(M:Md a)(h4:a.st<=4){x y:Nat}(hx:x<a.st.toNat)(hy:y<a.st.toNat){w:List Int}(hw:w.length<=63)(hl:∀ c∈w,1<=c/\c<=a.sy){k m:Nat}(hk:k<=4)(hm:m<=npc a.nf a.st.toNat (zbx w k) x y)(hm2:m<=100) :
  ∃ (B:GAuto) (W:List Int) (n:Nat),Sp P F.cd [enc a,.int .i64 (x:Nat),.int .i64 (y:Nat)] (.pure (enc B))/\Sp P F.cg [.sl (ens w),.int .i64 (k:Nat)] (.pure (.sl (ens W))) /\
   Sp P F.az [enc B,.sl (ens W)] (.pure (.tup [enc (natR n),.int .i64 0]))/\Sp P F.ai [.int .i64 (m:Nat),.int .i64 1] (.pure (.tup [enc (natR m),.int .i64 0])) /\
   Sp P F.aj [enc (natR n),enc (natR m)] (.pure (.int .i64 (if m<n then 1 else 0))):=by
 have ok:=GAuto.vb_iff.1 M.lk.vb;have e2:(a.st.toNat:Int)=a.st:=by have:=ok.st1;omega
 have hB:=ylk M x y;have hlen:(zbx w k).length<=256:=by rw[zmv];have:k*w.length<=4*63:=ymf hk hw;omega
 have hc:=yh0 M.ring hx hy (zbx w k);have hlt:=zvl hB hlen;have hcs:=zq9 hB hlen fun c hc=>hl c (zsr hc);have hst:(btG a a.st.toNat x y).st.toNat=a.st.toNat:=rfl;rw[hst]at hlt hcs;refine⟨_,_,_,zz6 (N:=a.st.toNat) (by omega) e2.symm,ydd w k (by omega) (by omega),hcs,yan m (by omega),?_⟩;have h:=zvm _ m hlt (zpx (by omega));rw[yl9 (by omega)]at h;exact h
theorem lawLoops_sp(p:GPlan)(t:Int):Sp P F.ot [enc p,.int .i64 t] (.pure (.bool true)):=by
 have M:Md (zgj wkT p 4):=zli (by omega) (by omega);have M4:=zsp (p:=p);have ap:=zln zk5 p 4 (by omega) (by omega);have wt:=zeh t 4 (by omega);have wr:=zck t (show(1:Int)<=4 by omega);have kn:=zj6;generalize zgj wkT p 4=a at *
 obtain⟨k0,hk0⟩:∃ k0:Nat,wthn t 4=(k0:Int):=⟨(wthn t 4).toNat,by omega⟩;rw[hk0]at wt wr;have lo:=zxo M.lk;have st:=z6p M.lk;have ok:=GAuto.vb_iff.1 M.lk.vb;have hA:=M.lk.ctr;have hel:(usV a.nf a.st.toNat).length=a.st.toNat:=zbf _ _ _ _;have e2:(a.st.toNat:Int)=a.st:=by have:=ok.st1;omega
 have esy:(a.sy.toNat:Int)=a.sy:=by have:=ok.sy1;omega
 have hN:a.st.toNat<=4:=by omega
 have b2:2*a.st.toNat*a.st.toNat<=2*4*4:=ymf (ynu 2 hN) hN;have b3:a.st.toNat*a.st.toNat*a.st.toNat<=4*4*4:=ymf (ymf hN hN) hN
 have pl:∀ q w,lpG (tgT a.nf (usV a.nf a.st.toNat)) a.st.toNat (usf (usV a.nf a.st.toNat)) a.sy.toNat (List.range' 0 a.st.toNat)=some (q,w)->q<a.st.toNat/\w≠[] /\
   ∃ (B:GAuto) (W:List Int) (n:Nat),Sp P F.cd [enc a,.int .i64 (q:Nat),.int .i64 (q:Nat)] (.pure (enc B))/\Sp P F.cg [.sl (ens w),.int .i64 (k0+1:Nat)] (.pure (.sl (ens W))) /\
   Sp P F.az [enc B,.sl (ens W)] (.pure (.tup [enc (natR n),.int .i64 0]))/\Sp P F.ai [.int .i64 ((2^(k0+1):Nat):Int),.int .i64 1] (.pure (.tup [enc (natR (2^(k0+1))),.int .i64 0])) /\
   Sp P F.aj [enc (natR n),enc (natR (2^(k0+1)))] (.pure (.int .i64 (if 2^(k0+1)<n then 1 else 0))):=by
  intro q w h;obtain⟨hq,h⟩:=zxm _ h;have hq:q<a.st.toNat:=by have:=List.mem_range'_1.1 hq;omega
  obtain⟨h1,h2,h3,h4⟩:=z3t hA hel hq h;refine⟨hq,h2,yal M M4 hq hq (by omega) (fun c hc=>by have:=h4 c hc;omega) (by omega) (z26 h1 _) ?_⟩;have:2^(k0+1)<=2^4:=yn4 (by omega) (by omega);omega
 have ps:∀ x y w,stO (tgT a.nf (usV a.nf a.st.toNat)) a.st.toNat (usf (usV a.nf a.st.toNat)) a.sy.toNat (List.range' 0 a.st.toNat)=some (x,y,w)->x<a.st.toNat/\y<a.st.toNat/\x≠y/\w≠[] /\
   ∃ (B:GAuto) (W:List Int) (n:Nat),Sp P F.cd [enc a,.int .i64 (x:Nat),.int .i64 (y:Nat)] (.pure (enc B))/\Sp P F.cg [.sl (ens w),.int .i64 (k0+1:Nat)] (.pure (.sl (ens W))) /\
   Sp P F.az [enc B,.sl (ens W)] (.pure (.tup [enc (natR n),.int .i64 0]))/\Sp P F.ai [.int .i64 (k0+1:Nat),.int .i64 1] (.pure (.tup [enc (natR (k0+1)),.int .i64 0])) /\
   Sp P F.aj [enc (natR n),enc (natR (k0+1))] (.pure (.int .i64 (if k0+1<n then 1 else 0))):=by
  intro x y w h;obtain⟨hx,hy,hxy,h⟩:=zwi _ h;have hx:x<a.st.toNat:=by have:=List.mem_range'_1.1 hx;omega
  obtain⟨h1,h2,h3,h4,h5,h6⟩:=z1c hA hel hx hy hxy h;exact⟨hx,hy,hxy,h4,yal M M4 hx hy (by omega) (fun c hc=>by have:=h6 c hc;omega) (by omega) (zw5 hxy h1 h2 h3 _) (by omega)⟩
 generalize lpG (tgT a.nf (usV a.nf a.st.toNat)) a.st.toNat (usf (usV a.nf a.st.toNat)) a.sy.toNat (List.range' 0 a.st.toNat)=r1 at *
 generalize stO (tgT a.nf (usV a.nf a.st.toNat)) a.st.toNat (usf (usV a.nf a.st.toNat)) a.sy.toNat (List.range' 0 a.st.toNat)=r2 at *
 have hast:=e2.symm;generalize a.st.toNat=N at *
 refine Sp.vz c.ot fun _=>?_;simp[g.ot];refine zaa ap (by simp[wkT]) ?_;simp;refine zab wt ?_;simp;refine zab lo ?_;have ek:IntKind.i64.wrap (1+(k0:Int))=((k0+1:Nat):Int):=by rw[i64w (by omega) (by omega)];omega
 have hk4:k0<4:=by omega
 have e3:IntKind.i64.wrap (2^(((k0:Int)+1) % 18446744073709551616).toNat.min 64)=((2^(k0+1):Nat):Int):=by
  obtain rfl|rfl|rfl|rfl:k0=0\/k0=1\/k0=2\/k0=3:=by omega
  all_goals decide
 cases r1 with
 | none =>
  simp[ek];refine zab st ?_;cases r2 with
  | none =>
   simp;refine zab kn ?_;simp
  | some x =>
   obtain⟨x,y,w⟩:=x;obtain⟨hx,hy,hxy,hw,B,W,n,c1,c2,c3,c4,c5⟩:=ps x y w rfl;have n1:¬ a.st<=(x:Int):=by omega
   have n2:¬ a.st<=(y:Int):=by omega
   have n3:¬ (x:Int)=y:=by omega
   simp[n1,n2,n3,hw];refine zab c1 ?_;simp;refine zab c2 ?_;simp;refine zab c3 ?_;simp;refine zab c4 ?_;simp;refine zab c5 ?_;have n4:¬ ((if k0+1<n then(1:Int)else 0)<0):=by split<;>omega
   simp[n4];refine zab kn ?_;simp
 | some v =>
  obtain⟨q,u⟩:=v;obtain⟨hq,hu,B',W',n',d1,d2,d3,d4,d5⟩:=pl q u rfl;have m1:¬ a.st<=(q:Int):=by omega
  have m4:¬ ((if 2^(k0+1)<n' then(1:Int)else 0)<0):=by split<;>omega
  simp[ek];refine zab st ?_;cases r2 with
  | none =>
   simp[m1,hu];refine zab d1 ?_;simp;refine zab d2 ?_;simp;refine zab d3 ?_;simp;refine⟨by omega,?_⟩;rw[e3];refine zab d4 ?_;simp;refine zab d5 ?_;simp[m4];refine zab kn ?_;simp
  | some x =>
   obtain⟨x,y,w⟩:=x;obtain⟨hx,hy,hxy,hw,B,W,n,c1,c2,c3,c4,c5⟩:=ps x y w rfl;have n1:¬ a.st<=(x:Int):=by omega
   have n2:¬ a.st<=(y:Int):=by omega
   have n3:¬ (x:Int)=y:=by omega
   simp[m1,hu,n1,n2,n3,hw];refine zab d1 ?_;simp;refine zab d2 ?_;simp;refine zab d3 ?_;simp;refine⟨by omega,?_⟩;rw[e3];refine zab d4 ?_;simp;refine zab d5 ?_;simp[m4];refine zab c1 ?_;simp;refine zab c2 ?_;simp;refine zab c3 ?_;simp;refine zab c4 ?_;simp;refine zab c5 ?_;have n4:¬ ((if k0+1<n then(1:Int)else 0)<0):=by split<;>omega
   simp[n4];refine zab kn ?_;simp
end Go.Ab
namespace Go.Ab
theorem zxt:∀ {u v:List Int} {x y:List Int},lexL u v->u.length=v.length->lexL (u++x) (v++y)
 | [],_,_,_,h,_=>h.elim
 | _::_,[],_,_,h,_=>h.elim
 | a::u,b::v,x,y,h,hl=>by
  simp only[lexL,yon]at h ⊢;rcases h with h|⟨e,h⟩
  ·exact .inl h
  ·exact .inr ⟨e,zxt h (by simpa using hl)⟩
theorem zst:∀ {u:List Int} {a b:Int},a<b->lexL (u++[a]) (u++[b])
 | [],_,_,h=>.inl h
 | _::u,_,_,h=>.inr ⟨rfl,zst (u:=u) h⟩
theorem zla{u v:List Int}{a b:Int}(h:slt u v):slt (u++[a]) (v++[b]):=by
 rcases h with h|⟨h,k⟩
 ·exact .inl (by simp only[ymy,ynl];omega)
 ·exact .inr ⟨by simp only[ymy,ynl];omega,zxt k h⟩
theorem z1o{u:List Int}{a:Int}:slt u (u++[a]):=.inl (by simp only[ymy,ynl];omega)
theorem zlb{u:List Int}{a b:Int}(h:a<b):slt (u++[a]) (u++[b]):=.inr ⟨by simp,zst h⟩
theorem ybw(u v:List Int):slt u v\/u=v\/slt v u:=by
 rcases zzy u v with h|h|h
 ·exact .inl h.2
 ·exact .inr (.inl h.2)
 ·exact .inr (.inr h.2)
theorem zua{u v:List Int}{a b:Int}(h:slt (u++[a]) (v++[b])):slt u v\/(u=v/\a<b):=by
 rcases ybw u v with h1|rfl|h1
 ·exact .inl h1
 ·refine .inr ⟨rfl,?_⟩;rcases yra a b with h2|rfl|h2
  ·exact h2
  ·exact absurd h zjq
  ·exact absurd (zgu h (zlb h2)) zjq
 ·exact absurd (zgu h (zla h1)) zjq
section
variable {goal:Nat->Bool} {nxt:Nat->Nat->List Nat}
structure LI (goal:Nat->Bool) (nxt:Nat->Nat->List Nat) (sy size:Nat) (beg:List Nat) (w:List Int) (G:List Nat) (l:Nat) (q:List Grp) (s:List Bool):Prop where
 a1:∀ v m,Ld nxt sy beg v m->slt v (w++[(l:Int)])->mkd s m
 a2:∀ m,m<size->mkd s m->goal m=false/\((∀ k,1<=k->k<=sy->∀ x∈nxt m k,mkd s x)\/(∃ g∈q,m∈g.2)\/(m∈G/\∀ k,1<=k->k<l->∀ x∈nxt m k,mkd s x))
 a3:∀ g∈(w,G)::q,∀ m∈g.2,∀ v,Ld nxt sy beg v m->¬ slt v g.1
 a4:((w,G)::q).Pairwise fun g h=>slt g.1 h.1
 a5:∀ g∈q,∃ (u:List Int) (a:Nat),g.1=u++[(a:Int)]/\a<=sy/\(slt u w\/(u=w/\a<l))
theorem LI.nxtL{sy size:Nat}{beg:List Nat}{w:List Int}{G:List Nat}{l:Nat}{q:List Grp}{s:List Bool}(hsz:∀ v m,Ld nxt sy beg v m->m<size)(h:LI goal nxt sy size beg w G l q s){v:List Int}{m:Nat}(hv:Ld nxt sy beg v m)(hs:slt v (w++[((l+1:Nat):Int)])) :
  mkd s m\/m∈G.flatMap fun n=>nxt n l:=by
 by_cases h0:slt v (w++[(l:Int)])
 ·exact .inl (h.a1 v m hv h0)
 ·cases hv with
  | nil h1=>exact absurd (.inl (by simp)) h0
  | snoc h1 h2 h3 h4 =>
   rename_i v0 m0 l0;rcases zua hs with h5|⟨rfl,h5⟩
   ·exact absurd (zla h5) h0
   ·have hl:l0=l:=by have:¬ l0<l:=fun h6=>h0 (zlb (by omega));omega
    subst hl;have hm0:=h.a1 _ _ h1 z1o;rcases(h.a2 m0 (hsz _ _ h1) hm0).2 with h6|⟨g,hg,h6⟩|⟨h6,_⟩
    ·exact .inl (h6 l0 h2 h3 m h4)
    ·exact absurd ((ymv.1 h.a4).1 g hg) (h.a3 g (ymr _ hg) m0 h6 _ h1)
    ·exact .inr (ymt.2 ⟨m0,h6,h4⟩)
theorem zpq{sy size:Nat}{beg:List Nat}{w:List Int}{G:List Nat}(hsz:∀ v m,Ld nxt sy beg v m->m<size):∀ (k l:Nat) (q:List Grp) (s:List Bool) (r:Option (List Int)) (q':List Grp) (s':List Bool),
  l+k=sy+1->ze6 goal nxt w G (List.range' l k) q s=(r,q',s')->LI goal nxt sy size beg w G l q s->1<=l ->
  (∀ v,r=some v->∀ u n,Ld nxt sy beg u n->goal n=true->¬ slt u v)/\(r=none->LI goal nxt sy size beg w G (sy+1) q' s')
 | 0,l,q,s,r,q',s',hl,h,hI,_=>by
  simp only[List.range'_zero,ze6,ym4]at h;obtain⟨rfl,rfl,rfl⟩:=h;have:l=sy+1:=by omega
  subst this;exact⟨fun v hv=>(by cases hv),fun _=>hI⟩
 | k+1,l,q,s,r,q',s',hl,h,hI,hl1=>by
  have ih:=zpq (w:=w) (G:=G) hsz k (l+1);rw[ypi,ze6,zy7]at h;have hmk:=z0e (goal:=goal) (G.flatMap fun n=>nxt n l) ⟨s,[],false⟩;have hr:=vs_r (goal:=goal) (G.flatMap fun n=>nxt n l) ⟨s,[],false⟩ rfl;have hf:=vs_f (goal:=goal) (G.flatMap fun n=>nxt n l) ⟨s,[],false⟩;have hnew:=zrn (goal:=goal) (G.flatMap fun n=>nxt n l) ⟨s,[],false⟩;generalize Sx.vs goal ⟨s,[],false⟩ (G.flatMap fun n=>nxt n l)=x at *
  simp only at hmk hf hnew;have k1:∀ v m,Ld nxt sy beg v m->slt v (w++[((l+1:Nat):Int)])->mkd x.s m:=fun v m hv hs=>by
   rcases hI.nxtL hsz hv hs with h1|h1
   ·exact(hmk m).2 (.inl h1)
   ·exact(hmk m).2 (.inr h1)
  have kG:∀ m∈G,∀ x'∈nxt m l,mkd x.s x':=fun m hm y hy=>(hmk y).2 (.inr (ymt.2 ⟨m,hm,hy⟩));have kk:∀ m,mkd s m->mkd x.s m:=fun m hm=>(hmk m).2 (.inl hm);have old:∀ (Q:List Grp),(∀ g∈q,g∈Q)->∀ m,m<size->mkd s m->goal m=false/\((∀ k,1<=k->k<=sy->∀ y∈nxt m k,mkd x.s y)\/(∃ g∈Q,m∈g.2)\/(m∈G/\∀ k,1<=k->k<l+1->∀ y∈nxt m k,mkd x.s y)):=by
   intro Q hQ m hm hms;obtain⟨h1,h2⟩:=hI.a2 m hm hms;refine⟨h1,?_⟩;rcases h2 with h2|⟨g,hg,h2⟩|⟨h2,h3⟩
   ·exact .inl fun k a b y hy=>kk y (h2 k a b y hy)
   ·exact .inr (.inl ⟨g,hQ g hg,h2⟩)
   ·refine .inr (.inr ⟨h2,fun k a b y hy=>?_⟩);by_cases e:k=l
    ·subst e;exact kG m h2 y hy
    ·exact kk y (h3 k a (by omega) y hy)
  split at h
  ·rename_i hnil;refine ih q x.s r q' s' (by omega) h ⟨k1,fun m hm hms=>?_,hI.a3,hI.a4,fun g hg=>?_⟩ (by omega)
   ·rcases hnew m hms with h1|h1
    ·exact old q (fun g h=>h) m hm h1
    ·rw[hnil]at h1;cases h1
   ·obtain⟨u,a,e,h1,h2⟩:=hI.a5 g hg;refine⟨u,a,e,h1,?_⟩;rcases h2 with h2|⟨h2,h3⟩
    ·exact .inl h2
    ·exact .inr ⟨h2,by omega⟩
  ·rename_i hne;split at h
   ·simp only[ym4]at h;obtain⟨rfl,_,_⟩:=h;refine⟨fun v hv u n hu hg hs=>?_,fun h=>by cases h⟩;simp only[ym1]at hv;subst hv;have h1:=(hI.a2 n (hsz _ _ hu) (hI.a1 u n hu hs)).1;rw[hg]at h1;cases h1
   ·rename_i hrf;have hq5:∀ g∈q,slt g.1 (w++[(l:Int)]):=by
     intro g hg;obtain⟨u,a,e,_,h2⟩:=hI.a5 g hg;rw[e];rcases h2 with h2|⟨rfl,h2⟩
     ·exact zla h2
     ·exact zlb (by omega)
    refine ih _ x.s r q' s' (by omega) h ⟨k1,fun m hm hms=>?_,fun g hg m hm v hv=>?_,?_,fun g hg=>?_⟩ (by omega)
    ·rcases hnew m hms with h1|h1
     ·exact old _ (fun g h=>yre _ h) m hm h1
     ·refine⟨?_,.inr (.inl ⟨_,List.mem_append_right _ (ymj.2 rfl),h1⟩)⟩;cases hgm:goal m with
      | false=>rfl
      | true =>
       refine absurd ?_ hrf;rw[hr];exact yp2.2 ⟨m,h1,hgm⟩
    ·rcases ym3.1 hg with rfl|hg
     ·exact hI.a3 _ yne m hm v hv
     ·rcases ymc.1 hg with hg|hg
      ·exact hI.a3 g (ymr _ hg) m hm v hv
      ·rw[ymj]at hg;subst hg;intro hs;rcases hf m hm with h1|⟨_,h1⟩
       ·cases h1
       ·exact h1 (hI.a1 v m hv hs)
    ·have h4:=ymv.1 hI.a4;refine ymv.2 ⟨fun g hg=>?_,ynz.2 ⟨h4.2,List.pairwise_singleton _ _,fun g hg y hy=>?_⟩⟩
     ·rcases ymc.1 hg with hg|hg
      ·exact h4.1 g hg
      ·rw[ymj]at hg;subst hg;exact z1o
     ·rw[ymj]at hy;subst hy;exact hq5 g hg
    ·rcases ymc.1 hg with hg|hg
     ·obtain⟨u,a,e,h1,h2⟩:=hI.a5 g hg;refine⟨u,a,e,h1,?_⟩;rcases h2 with h2|⟨h2,h3⟩
      ·exact .inl h2
      ·exact .inr ⟨h2,by omega⟩
     ·rw[ymj]at hg;subst hg;exact⟨w,l,rfl,by omega,.inr ⟨rfl,by omega⟩⟩
theorem LI.step{sy size:Nat}{beg:List Nat}{w w':List Int}{G G':List Nat}{q:List Grp}{s:List Bool}(hsz:∀ v m,Ld nxt sy beg v m->m<size)(h:LI goal nxt sy size beg w G (sy+1) ((w',G')::q) s):LI goal nxt sy size beg w' G' 1 q s:=by
 have h4:=ymv.1 h.a4;have h4':=ymv.1 h4.2;have hw:slt w w':=h4.1 _ yne;obtain⟨u,a,e,ha,hu⟩:=h.a5 _ yne;have e':w'=u++[(a:Int)]:=e;have hc:slt w' (w++[((sy+1:Nat):Int)]):=by
  rw[e'];rcases hu with hu|⟨rfl,_⟩
  ·exact zla hu
  ·exact zlb (by omega)
 refine⟨fun v m hv hs=>?_,fun m hm hms=>?_,fun g hg=>h.a3 g (ymr _ hg),h4.2,fun g hg=>?_⟩
 ·cases hv with
  | nil h1=>exact h.a1 _ _ (.nil h1) (.inl (by simp))
  | snoc h1 h2 h3 h5 =>
   rename_i v0 m0 l0;rcases zua hs with h6|⟨_,h6⟩
   ·have hm0:=h.a1 _ _ h1 (zgu h6 hc);rcases(h.a2 m0 (hsz _ _ h1) hm0).2 with h7|⟨g,hg,h7⟩|⟨_,h7⟩
    ·exact h7 l0 h2 h3 m h5
    ·exfalso;refine h.a3 g (ymr _ hg) m0 h7 _ h1 ?_;rcases ym3.1 hg with rfl|hg
     ·exact h6
     ·exact zgu h6 (h4'.1 g hg)
    ·exact h7 l0 h2 (by omega) m h5
   ·omega
 ·obtain⟨h1,h2⟩:=h.a2 m hm hms;refine⟨h1,?_⟩;rcases h2 with h2|⟨g,hg,h2⟩|⟨_,h2⟩
  ·exact .inl h2
  ·rcases ym3.1 hg with rfl|hg
   ·exact .inr (.inr ⟨h2,fun k a b=>by omega⟩)
   ·exact .inr (.inl ⟨g,hg,h2⟩)
  ·exact .inl fun k a b=>h2 k a (by omega)
 ·obtain⟨u',a',e1,h1,h2⟩:=h.a5 g (ymr _ hg);refine⟨u',a',e1,h1,.inl ?_⟩;rcases h2 with h2|⟨rfl,_⟩
  ·exact zgu h2 hw
  ·exact hw
theorem z32(sy:Nat):labs sy=List.range' 1 sy:=by
 unfold labs;have e:(fun x:Nat=>x+1)=fun x=>1+x:=by funext x;omega
 rw[List.range_eq_range',e,List.map_add_range']
theorem yab{sy size:Nat}{beg:List Nat}(hsz:∀ v m,Ld nxt sy beg v m->m<size):∀ (n:Nat) (q:List Grp) (s:List Bool) (v:List Int),(∀ g q',q=g::q'->LI goal nxt sy size beg g.1 g.2 1 q' s)->sxQ goal nxt sy n q s=some v ->
  ∀ u n,Ld nxt sy beg u n->goal n=true->¬ slt u v
 | 0,_,_,_,_,h=>by simp[sxQ]at h
 | _+1,[],_,_,_,h=>by simp[sxQ]at h
 | n+1,g::q,s,v,hI,h=>by
  rw[sxQ]at h;have hg:=hI g q rfl;split at h
  ·rename_i v' q' s' e;simp only[ym1]at h;subst h;rw[z32]at e;exact(zpq hsz sy 1 _ _ _ _ _ (by omega) e hg (by omega)).1 _ rfl
  ·rename_i q' s' e;rw[z32]at e;have h1:=(zpq hsz sy 1 _ _ _ _ _ (by omega) e hg (by omega)).2 rfl;refine yab hsz n q' s' v (fun g' q'' e=>?_) h;subst e;exact h1.step hsz
theorem z6m{sy size:Nat}{beg:List Nat}{w:List Int}(hn:∀ m l,∀ k∈nxt m l,k<size)(hb:∀ m∈beg,m<size)(h:sx goal nxt sy size beg=some w):∀ u n,Ld nxt sy beg u n->goal n=true->¬ slt u w:=by
 have hsz:∀ v m,Ld nxt sy beg v m->m<size:=fun v m hv=>by
  cases hv with
  | nil h=>exact hb _ h
  | snoc _ _ _ h=>exact hn _ _ _ h
 unfold sx at h;have hr:=vs_r (goal:=goal) beg ⟨List.replicate size false,[],false⟩ rfl;have hmk:=z0e (goal:=goal) beg ⟨List.replicate size false,[],false⟩;have hnew:=zrn (goal:=goal) beg ⟨List.replicate size false,[],false⟩;generalize Sx.vs goal ⟨List.replicate size false,[],false⟩ beg=x at *
 have h0:∀ v:List Int,¬ slt v []:=fun v hv=>by
  rcases hv with hv|⟨hv,hx⟩
  ·simp at hv
  ·have:v=[]:=List.length_eq_zero_iff.1 (by simpa using hv);subst this;exact hx
 split at h
 ·simp only[ym1]at h;subst h;exact fun u n _ _=>h0 u
 ·rename_i hrf;refine yab hsz _ _ _ _ (fun g q' e=>?_) h;simp only[ypy]at e;obtain⟨rfl,rfl⟩:=e;refine⟨fun v m hv hs=>?_,fun m hm hms=>?_,fun g hg m _ v _=>?_,List.pairwise_singleton _ _,fun g hg=>by cases hg⟩
  ·cases hv with
   | nil h1=>exact(hmk m).2 (.inr h1)
   | snoc h1 h2 h3 h5 =>
    rcases zua (u:=_) (v:=[]) hs with h6|⟨_,h6⟩
    ·exact absurd h6 (h0 _)
    ·omega
  ·rcases hnew m hms with h1|h1
   ·exfalso;unfold mkd at h1;rw[ym8,yrf,ym0 hm]at h1;cases h1
   ·refine⟨?_,.inr (.inr ⟨h1,fun k a b=>by omega⟩)⟩;cases hgm:goal m with
    | false=>rfl
    | true =>
     refine absurd ?_ hrf;rw[hr];exact yp2.2 ⟨m,h1,hgm⟩
  ·rw[ymj]at hg;subst hg;exact h0 v
end
def Gp(A:GAuto)(N:Nat)(w:List Int)(k:Nat):Prop:=∃ a b d,a<N/\b<N/\k=nod N a b d/\1<=fwd A N (bgN A N) w a/\1<=fwd A N (bgN A N) w b/\(d=true->a=b->2<=fwd A N (bgN A N) w a)
theorem yku{A:GAuto}{N:Nat}(hA:CtrOk A N){U:List Bool}(hU:U.length=N){sy:Nat}{w:List Int}{k:Nat}(h:Ld (nx2 (tgT A U) N) sy (bg2 N fun s=>usf U s&&nzI A s) w k):Gp A N w k:=by
 induction h with
 | nil h =>
  obtain⟨a,b,ha,hb,h1,h2,rfl⟩:=ze8.1 h;simp only[ymd]at h1 h2;refine⟨a,b,false,ha,hb,rfl,?_,?_,fun h=>by cases h⟩
  ·show 1<=bgN A N a;unfold bgN;rw[ym0 ⟨ha,h1.2⟩];exact ym9 _
  ·show 1<=bgN A N b;unfold bgN;rw[ym0 ⟨hb,h2.2⟩];exact ym9 _
 | snoc h h1 h2 h3 ih =>
  rename_i w m l n;obtain⟨a,b,d,ha,hb,rfl,p1,p2,p3⟩:=ih;obtain⟨x,y,hx,hy,rfl⟩:=zek.1 h3;rw[zhv hb]at hx;rw[zhu hb]at hy;have tx:=(zh2 hA hU).t _ _ _ hx;have ty:=(zh2 hA hU).t _ _ _ hy;have cx:=zh9 hx;have cy:=zh9 hy;unfold Gp;rw[zi9];refine⟨x,y,_,tx.1,ty.1,rfl,ym6 (ymf p1 cx) (ze7 A l _ ha x),ym6 (ymf p2 cy) (ze7 A l _ hb y),fun hd hxy=>?_⟩;subst hxy;rw[zih]at hd;by_cases hab:a=b
  ·subst hab;have hd2:d=true:=by simpa using hd
   exact ym6 (ymf (p3 hd2 rfl) cx) (ze7 A l _ ha x)
  ·have a1:=ymf p1 cx;have a2:=ymf p2 cy;rcases Nat.lt_or_gt_of_ne hab with hlt|hlt
   ·have:=zp1 A l (fwd A N (bgN A N) w) hlt hb x;omega
   ·have:=zp1 A l (fwd A N (bgN A N) w) hlt ha x;omega
theorem z1m{A:GAuto}{f:Nat->Nat}{N q r:Nat}(h:q<r)(hr:r<N)(hz:nzF A q=true)(hy:nzF A r=true):f q+f r<=smE A f N:=by have h1:=zwl (A:=A) (f:=f) (show r+1<=N from hr);have h2:=z1n (f:=f) h hz;rw[smE,ym0 hy]at h1;omega
theorem yg1{A:GAuto}{N:Nat}{w:List Int}{k:Nat}(h:Gp A N w k)(hg:gl2 N (nzF A) k=true):2<=cntA A N w:=by
 obtain⟨a,b,d,ha,hb,rfl,p1,p2,p3⟩:=h;unfold gl2 at hg;rw[zhv hb,zhu hb,zih]at hg;simp only[ymd]at hg;obtain⟨⟨h1,h2⟩,h3⟩:=hg;unfold cntA;by_cases hab:a=b
 ·subst hab;exact Nat.le_trans (p3 (by simpa using h1) rfl) (z1n ha h2)
 ·rcases Nat.lt_or_gt_of_ne hab with hlt|hlt
  ·have:=z1m (f:=fwd A N (bgN A N) w) hlt hb h2 h3;omega
  ·have:=z1m (f:=fwd A N (bgN A N) w) hlt ha h3 h2;omega
theorem z1k{A:GAuto}{f:Nat->Nat}:∀ {N:Nat},1<=smE A f N->∃ q,q<N/\nzF A q=true/\1<=f q
 | 0,h=>by simp[smE]at h
 | N+1,h=>by
  rw[smE]at h;by_cases hf:nzF A N=true/\1<=f N
  ·exact⟨N,by omega,hf.1,hf.2⟩
  ·have h2:1<=smE A f N:=by
    split at h
    ·rename_i hz;have:¬ 1<=f N:=fun h'=>hf ⟨hz,h'⟩;omega
    ·exact h
   obtain⟨q,a,b,c⟩:=z1k h2;exact⟨q,by omega,b,c⟩
theorem z1j{A:GAuto}{f:Nat->Nat}:∀ {N:Nat},2<=smE A f N->(∃ q,q<N/\nzF A q=true/\2<=f q)\/∃ q r,q<N/\r<N/\q≠r/\nzF A q=true/\nzF A r=true/\1<=f q/\1<=f r
 | 0,h=>by simp[smE]at h
 | N+1,h=>by
  rw[smE]at h;have up:2<=smE A f N->(∃ q,q<N+1/\nzF A q=true/\2<=f q)\/∃ q r,q<N+1/\r<N+1/\q≠r/\nzF A q=true/\nzF A r=true/\1<=f q/\1<=f r:=fun h2=>by
   rcases z1j h2 with⟨q,a,b⟩|⟨q,r,a,b,c⟩
   ·exact .inl ⟨q,by omega,b⟩
   ·exact .inr ⟨q,r,by omega,by omega,c⟩
  split at h
  ·rename_i hz;rcases ymu (f N) 1 with h1|h1
   ·exact up (by omega)
   ·rcases ymu (f N) 2 with h2|h2
    ·obtain⟨q,a,b,c⟩:=z1k (show 1<=smE A f N by omega);exact .inr ⟨q,N,by omega,by omega,by omega,b,hz,c,h1⟩
    ·exact .inl ⟨N,by omega,hz,h2⟩
  ·exact up h
theorem zp0{A:GAuto}{l:Int}{f:Nat->Nat}{t:Nat}:∀ {N:Nat},1<=rwN A l f N t->∃ q,q<N/\1<=f q/\1<=tgc A l q t
 | 0,h=>by simp[rwN]at h
 | N+1,h=>by
  rw[zcm]at h;by_cases hf:1<=f N/\1<=tgc A l N t
  ·exact⟨N,by omega,hf⟩
  ·have h0:f N*tgc A l N t=0:=by
    rcases ynx (f N)with h|h
    ·rw[h,ypr]
    ·have:tgc A l N t=0:=by
      rcases ynx (tgc A l N t)with h'|h'
      ·exact h'
      ·exact absurd ⟨h,h'⟩ hf
     rw[this,yq9]
   obtain⟨q,a,b⟩:=zp0 (show 1<=rwN A l f N t by omega);exact⟨q,by omega,b⟩
theorem z10{A:GAuto}{l:Int}{f:Nat->Nat}{t:Nat}(ht:∀ q,tgc A l q t<=1):∀ {N:Nat},2<=rwN A l f N t->(∃ q,q<N/\2<=f q/\1<=tgc A l q t)\/∃ q r,q<N/\r<N/\q≠r/\1<=f q/\1<=f r/\1<=tgc A l q t/\1<=tgc A l r t
 | 0,h=>by simp[rwN]at h
 | N+1,h=>by
  rw[zcm]at h;have up:2<=rwN A l f N t->(∃ q,q<N+1/\2<=f q/\1<=tgc A l q t)\/∃ q r,q<N+1/\r<N+1/\q≠r/\1<=f q/\1<=f r/\1<=tgc A l q t/\1<=tgc A l r t:=fun h2=>by
   rcases z10 ht h2 with⟨q,a,b⟩|⟨q,r,a,b,c⟩
   ·exact .inl ⟨q,by omega,b⟩
   ·exact .inr ⟨q,r,by omega,by omega,c⟩
  rcases ymu (tgc A l N t) 1 with h1|h1
  ·have:tgc A l N t=0:=by omega
   rw[this,yq9]at h;exact up h
  ·have e:tgc A l N t=1:=by have:=ht N;omega
   rw[e,Nat.mul_one]at h;rcases ymu (f N) 1 with h2|h2
   ·exact up (by omega)
   ·rcases ymu (f N) 2 with h3|h3
    ·obtain⟨q,a,b,c⟩:=zp0 (show 1<=rwN A l f N t by omega);exact .inr ⟨q,N,by omega,by omega,by omega,b,h2,c,h1⟩
    ·exact .inl ⟨N,by omega,h3,h1⟩
theorem zt3{A:GAuto}{l:Int}{q t:Nat}(h:1<=tgc A l q t):∃ x∈A.arcs,x.f=(q:Int)/\x.l=l/\tT x=t:=by unfold tgc at h;obtain⟨x,hx⟩:=List.exists_mem_of_length_pos h;obtain⟨h1,h2⟩:=List.mem_filter.1 hx;obtain⟨h3,h4⟩:=zhl h1;obtain⟨h5,h6⟩:=List.mem_filter.1 h3;exact⟨x,h5,by simpa using h6,h4,by simpa using h2⟩
theorem z6n(L:List GArc)(l:Int):(stpL L l).Sublist L:=by unfold stpL;exact(List.takeWhile_sublist _).trans (List.dropWhile_sublist _)
theorem yfv{A:GAuto}(hs:SSrt GArc.key A.arcs)(ht:∀ x∈A.arcs,0<=x.t)(l:Int)(q t:Nat):tgc A l q t<=1:=by
 have h0:A.arcs.Pairwise fun a b=>a.key<b.key:=hs;have hsub:((stpL (za7 A.arcs q) l).filter fun x=>decide (tT x=t)).Sublist A.arcs:=(List.filter_sublist.trans (z6n _ _)).trans List.filter_sublist;have h1:=yq2 hsub h0;have hm:∀ x∈(stpL (za7 A.arcs q) l).filter fun x=>decide (tT x=t),x.key=[(q:Int),l,(t:Int)]:=by
  intro x hx;obtain⟨h1,h2⟩:=List.mem_filter.1 hx;obtain⟨h3,h4⟩:=zhl h1;obtain⟨h5,h6⟩:=List.mem_filter.1 h3;have h7:x.f=(q:Int):=by simpa using h6
  have h8:tT x=t:=by simpa using h2
  have:=ht x h5;have h9:x.t=(t:Int):=by unfold tT at h8;omega
  unfold GArc.key;rw[h7,h4,h9]
 unfold tgc;generalize ((stpL (za7 A.arcs q) l).filter fun x=>decide (tT x=t))=L at *
 match L with
 | []=>simp
 | [x]=>simp
 | x::y::r =>
  exfalso;have h2:=(ymv.1 h1).1 y (by simp);rw[hm x (by simp),hm y (by simp)]at h2;exact yo7 _ h2
section
variable {A:GAuto} {N:Nat} (hs:SSrt GArc.key A.arcs) (hok:StOk A N) (ht:∀ x∈A.arcs,0<=x.t)
include hs hok ht
theorem ydk{sy:Nat}:∀ (w:List Int),(∀ x∈w,1<=x/\x<=(sy:Int)) ->
  (∀ a b,a<N->b<N->Mk tT fT A.arcs (endP A N) a->Mk tT fT A.arcs (endP A N) b->1<=fwd A N (bgN A N) w a->1<=fwd A N (bgN A N) w b->Mk fT tT A.arcs (begP A N) a/\∃ d,Ld (nx2 (tgt A (usB A N)) N) sy (bg2 N fun s=>usB A N s&&nzI A s) w (nod N a b d)) /\
  (∀ a,a<N->Mk tT fT A.arcs (endP A N) a->2<=fwd A N (bgN A N) w a->Ld (nx2 (tgt A (usB A N)) N) sy (bg2 N fun s=>usB A N s&&nzI A s) w (nod N a a true)):=by
 intro w;generalize hn:w.length=n
 induction n generalizing w with
 | zero =>
  intro _;have:w=[]:=yq1.1 hn;subst this;have hb:∀ a,1<=bgN A N a->a<N/\nzI A a=true:=fun a h=>by
   unfold bgN at h;split at h
   ·assumption
   ·omega
  have hm:∀ a,nzI A a=true->a<N->Mk fT tT A.arcs (begP A N) a:=fun a h h2=>.base ⟨h2,by unfold nzI at h;simpa using h⟩;refine⟨fun a b ha hb2 ea eb h1 h2=>?_,fun a ha ea h=>?_⟩
  ·have ia:=(hb a h1).2;have ib:=(hb b h2).2;have ma:=hm a ia ha;have mb:=hm b ib hb2;refine⟨ma,false,.nil (ze8.2 ⟨a,b,ha,hb2,?_,?_,rfl⟩)⟩
   ·rw[ze4.2 ⟨ha,ea,ma⟩,ia];rfl
   ·rw[ze4.2 ⟨hb2,eb,mb⟩,ib];rfl
  ·exfalso;have h3:2<=bgN A N a:=h;unfold bgN at h3;split at h3<;>omega
 | succ n ih =>
  intro hl;obtain⟨v,l,rfl⟩:∃ v l,w=v++[l]:=by
   rcases yqw w with h|⟨v,l,h⟩
   ·subst h;simp at hn
   ·exact⟨v,l,by rw[h,yqx]⟩
  have hv:v.length=n:=by simpa using hn
  obtain⟨i1,i2⟩:=ih v hv fun x hx=>hl x (yre _ hx);have hll:=hl l (List.mem_append_right _ (ymj.2 rfl));obtain⟨k,rfl⟩:∃ k:Nat,l=(k:Int):=⟨l.toNat,by omega⟩;have k1:1<=k:=by omega
  have k2:k<=sy:=by omega
  rw[zi9];have cq:∀ {q a:Nat},Mk tT fT A.arcs (endP A N) a->1<=tgc A k q a->Mk tT fT A.arcs (endP A N) q:=by
   intro q a ea h;obtain⟨x,hx,h1,_,rfl⟩:=zt3 h;have:fT x=q:=by unfold fT;omega
   rw[<- this];exact .step hx ea
  have fw:∀ {q a:Nat},Mk fT tT A.arcs (begP A N) q->1<=tgc A k q a->Mk fT tT A.arcs (begP A N) a:=by
   intro q a ea h;obtain⟨x,hx,h1,_,rfl⟩:=zt3 h;have:fT x=q:=by unfold fT;omega
   rw[<- this]at ea;exact .step hx ea
  have mt:∀ {q a:Nat},a<N->Mk tT fT A.arcs (endP A N) a->Mk fT tT A.arcs (begP A N) a->1<=tgc A k q a->a∈tgt A (usB A N) q k:=by intro q a ha ea ba h;obtain⟨x,hx,h1,h2,h3⟩:=zt3 h;exact zms.2 ⟨x,hx,h1,h2,h3,ze4.2 ⟨ha,ea,ba⟩⟩
  refine⟨fun a b ha hb ea eb h1 h2=>?_,fun a ha ea h=>?_⟩
  ·obtain⟨qa,la,fa,ta⟩:=zp0 h1;obtain⟨qb,lb,fb,tb⟩:=zp0 h2;obtain⟨m1,d,h3⟩:=i1 qa qb la lb (cq ea ta) (cq eb tb) fa fb;obtain⟨m2,_⟩:=i1 qb qa lb la (cq eb tb) (cq ea ta) fb fa;refine⟨fw m1 ta,_,.snoc h3 k1 k2 (zek.2 ⟨a,b,?_,?_,rfl⟩)⟩
   ·rw[zhv lb];exact mt ha ea (fw m1 ta) ta
   ·rw[zhu lb];exact mt hb eb (fw m2 tb) tb
  ·have e1:∀ {q r:Nat} {d:Bool},(d||decide (q≠r))=true->(nod N q r d % 2 == 1)=true:=fun h=>by rw[zih];exact h
   rcases z10 (fun q=>yfv hs ht k q a) h with⟨q,lq,fq,tq⟩|⟨q,r,lq,lr,hqr,fq,fr,tq,tr⟩
   ·have h3:=i2 q lq (cq ea tq) fq;obtain⟨m1,_⟩:=i1 q q lq lq (cq ea tq) (cq ea tq) (by omega) (by omega);refine .snoc h3 k1 k2 (zek.2 ⟨a,a,?_,?_,?_⟩)
    ·rw[zhv lq];exact mt ha ea (fw m1 tq) tq
    ·rw[zhu lq];exact mt ha ea (fw m1 tq) tq
    ·rw[e1 (by simp)]
   ·obtain⟨m1,d,h3⟩:=i1 q r lq lr (cq ea tq) (cq ea tr) fq fr;refine .snoc h3 k1 k2 (zek.2 ⟨a,a,?_,?_,?_⟩)
    ·rw[zhv lr];exact mt ha ea (fw m1 tq) tq
    ·rw[zhu lr];exact mt ha ea (fw m1 tq) tr
    ·rw[e1 (by simp[hqr])]
theorem yhz{sy:Nat}{w:List Int}(hl:∀ x∈w,1<=x/\x<=(sy:Int))(h:2<=cntA A N w):∃ n,Ld (nx2 (tgt A (usB A N)) N) sy (bg2 N fun s=>usB A N s&&nzI A s) w n/\gl2 N (nzF A) n=true:=by
 obtain⟨i1,i2⟩:=ydk hs hok ht (sy:=sy) w hl;have me:∀ q,q<N->nzF A q=true->Mk tT fT A.arcs (endP A N) q:=fun q hq h=>.base ⟨hq,by unfold nzF at h;simpa using h⟩;rcases z1j h with⟨q,lq,zq,fq⟩|⟨q,r,lq,lr,hqr,zq,zr,fq,fr⟩
 ·refine⟨_,i2 q lq (me q lq zq) fq,?_⟩;unfold gl2;rw[zhv lq,zhu lq,zih,zq];simp
 ·obtain⟨_,d,h3⟩:=i1 q r lq lr (me q lq zq) (me r lr zr) fq fr;refine⟨_,h3,?_⟩;unfold gl2;rw[zhv lr,zhu lr,zih,zq,zr];simp[hqr]
end
theorem z7r{A:GAuto}{N:Nat}(hA:CtrOk A N){U:List Bool}(hU:U.length=N){sy:Nat}{w:List Int}(h:tw2 (tgT A U) N (fun s=>usf U s&&nzI A s) (nzF A) sy=some w):2<=cntA A N w/\(w=[]\/w.length+1<=2*N*N)/\∀ x∈w,1<=x/\x<=(sy:Int):=by
 unfold tw2 at h;obtain⟨n,h1,h2⟩:=zpp h;refine⟨yg1 (yku hA hU h1) h2,?_,h1.lab⟩;by_cases hw:w=[]
 ·exact .inl hw
 ·exact .inr (z06 h hw)
end Go.Ab
namespace Go.Ab
open Enc (enc)
attribute [local simp] zaj Opd.slots
theorem z7s{a:GAuto}{n:Nat}(h:Lk a n):Sp P F.gm [enc a] (.pure (match tw2 (tgT a.nf (usV a.nf a.st.toNat)) a.st.toNat (fun s=>usf (usV a.nf a.st.toNat) s&&nzI a.nf s) (nzF a.nf) a.sy.toNat with
  | some w=>.tup [.sl (ens w),.bool true,.int .i64 0]
  | none=>.tup [.sl [],.bool false,.int .i64 0])):=by
 have hA:=h.ctr;have hl:=zxr h;have hel:(usV a.nf a.st.toNat).length=a.st.toNat:=zbf _ _ _ _;obtain⟨hsy,hsyA⟩:=h.sy;have hp:=z2o hA h.il h.ism hel hsy hsyA;generalize tw2 (tgT a.nf (usV a.nf a.st.toNat)) a.st.toNat (fun s=>usf (usV a.nf a.st.toNat) s&&nzI a.nf s) (nzF a.nf) a.sy.toNat=r1 at *
 generalize pth a.nf (usV a.nf a.st.toNat)=p at *
 refine Sp.vz c.gm fun _=>?_;simp[g.gm];refine zab hl ?_;simp;refine zab hp ?_;obtain _|w:=r1
 ·simp[resS]
 ·simp[resS]
def lesW:List Int->List Int->Bool
 | a::v,b::w=>if a=b then lesW v w else decide (a<b)
 | _,_=>false
theorem zxv:∀ {v w:List Int},lesW v w=true ↔ lexL v w
 | [],w=>by simp[lesW,lexL]
 | _::_,[]=>by simp[lesW,lexL]
 | a::v,b::w=>by
  have ih:=zxv (v:=v) (w:=w);simp only[lesW,lexL];by_cases h:a=b
  ·subst h;simp[ih]
  ·simp[h]
theorem z3w(v w:List Int)(hv:v.length=w.length)(hl:v.length<=1000):Sp P F.j6 [.sl (ens v),.sl (ens w)] (.pure (.bool (lesW v w))):=by
 refine Sp.vz c.j6 fun _=>?_;simp[g.j6];refine zag (S:=fun i:Nat=>mkSt [(0,.p (.sl (ens v))),(1,.p (.sl (ens w))),(5,.p (.int .i64 i))] []) (I:=fun i=>i<=v.length/\lesW (v.drop i) (w.drop i)=lesW v w) (m:=fun i=>v.length - i) 0 (Weak.to [0,1,5] [] (by simp[mkSt])) ⟨yn0 _,rfl⟩ ?_;rintro i ⟨hi,hc⟩ R hn hr hx;have e1:=i64s i;by_cases hlt:i<v.length
 ·have hlt2:i<w.length:=by omega
  rw[ynt hlt,ynt hlt2,lesW]at hc;have hend:∀ st',Weak st' (mkSt [(0,.p (.sl (ens v))),(1,.p (.sl (ens w))),(5,.p (.int .i64 (i+1:Nat)))] [])->lesW (v.drop (i+1)) (w.drop (i+1))=lesW v w->R .normal st':=fun st' h h2=>hn (i+1) st' h ⟨by omega,h2⟩ (by omega);simp[g.qu,mkSt,hlt];refine zae hlt ?_;refine zae hlt2 ⟨fun e=>?_,fun e=>zae hlt (zae hlt2 ?_)⟩
  ·rw[ym0 e]at hc;rw[e1];exact hend _ (Weak.to [0,1,5] [] (by simp[mkSt])) hc
  ·rw[yl9 e]at hc;refine hr _ ?_;rw[hc];simp
 ·have:i=v.length:=by omega
  subst this;have hv0:lesW v w=false:=by rw[<- hc,List.drop_length];cases w.drop v.length<;>rfl
  simp[g.qu,mkSt];refine hx _ _ ?_;simp[hv0]
end Go.Ab
