/-
Proofs for the law TransducerWeighsMadeModels, part 44. Conditions: none.
-/
import Derived.Test.YtbhboeijjgiflaaGreatDoorCP43
import Derived.Test.YtbhboeijjgiflaaGreatDoorCP42
import Derived.Test.YtbhboeijjgiflaaGreatDoorCP38
set_option maxRecDepth 100000
set_option maxHeartbeats 4000000
set_option linter.all false
namespace Go.Ab
open Enc (enc)
attribute [local go_sem] zal Opd.slots
def f7S(t:GTrans)(wx wy:List Int)(I J N:Nat)(T:List (List GW))(ord:List Nat)(i k:Nat):St :=
 ⟨[(0,.ptr 900000 0 0 0),(1,.p (.sl (ens (toI ord)))),(4,.p (.int .i64 i)),(15,.p (.int .i64 I)),(16,.p (.int .i64 i)),(26,.p (.int .i64 J)),(27,.p (.int .i64 k))],hpT t wx wy I J N T++[(DEAD,[none])]⟩
def f8S(t:GTrans)(wx wy:List Int)(I J N:Nat)(T:List (List GW))(ord:List Nat)(i:Nat):St :=
 ⟨[(0,.ptr 900000 0 0 0),(1,.p (.sl (ens (toI ord)))),(15,.p (.int .i64 I)),(16,.p (.int .i64 i))],hpT t wx wy I J N T++[(DEAD,[none])]⟩
theorem f3_7(t:GTrans)(wx wy:List Int)(I J N:Nat)(T:List (List GW))(ord:List Nat)(i k idx:Nat):Weak (f3S t wx wy I J N T ord i k idx) (f7S t wx wy I J N T ord i k):=by refine Weak.toF [0,1,4,15,16,26,27] [900000,900001,900002,900003] [] ?_;simp[go_sem,f3S,f7S,hpT,tabV,zdp];exact zas I J N T
theorem f7_8(t:GTrans)(wx wy:List Int)(I J N:Nat)(T:List (List GW))(ord:List Nat)(i k:Nat):Weak (f7S t wx wy I J N T ord i k) (f8S t wx wy I J N T ord i):=by refine Weak.toF [0,1,15,16] [900000,900001,900002,900003] [] ?_;simp[go_sem,f7S,f8S,hpT,tabV,zdp];exact zas I J N T
section
variable {t:GTrans} {M:Meas t.ring} {c:Nat} (fo:fillOk t M c) {wx wy:List Int} {I J N:Nat} (hI:I=wx.length+1) (hJ:J=wy.length+1) (hN:N=t.st.toNat) (lI:I<=1000) (lJ:J<=1000)
include fo hI hJ hN lI lJ
theorem ydf{i B:Nat}{T:List (List GW)}{ord:List Nat}(hi:i<I)(ho:∀ q∈ord,q<N)(ol:ord.length<=1000)(h:zcf t.ring (plN wx wy) t.st.toNat T)(hv:vbT M B T)(hl:B+J*(ord.length*sLv c t.arcs)<=M.lim)(A:FA){s:St}(hw:Weak s (f7S t wx wy I J N T ord i 0)) :
  MR P 104 (GC.loop g.oe).er s (some A) fun ex s B=>ex=.exit 2/\B=some A/\Weak s (f7S t wx wy I J N (rwT t.ring wx wy t.arcs ord i T J) ord i J):=by
 refine MR.gloop (I:=fun n s B=>∃ x,x<=J/\n=J - x/\Weak s (f7S t wx wy I J N (rwT t.ring wx wy t.arcs ord i T x) ord i x)/\B=some A) J ⟨0,by omega,by omega,hw,rfl⟩ ?_;rintro n0 s B ⟨x,hx,rfl,hw,rfl⟩;refine MR.weak hw ?_;generalize hR:(fun(ex:Exit) (s:St) (B:Option FA)=>(ex=.normal->∃ m,m<J - x/\∃ x,x<=J/\m=J - x/\Weak s (f7S t wx wy I J N (rwT t.ring wx wy t.arcs ord i T x) ord i x)/\B=some A)/\(ex ≠ .normal->ex=.exit 2/\B=some A/\Weak s (f7S t wx wy I J N (rwT t.ring wx wy t.arcs ord i T J) ord i J)))=R;have hst:rwT t.ring wx wy t.arcs ord i T (x+1)=plT t.ring wx wy t.arcs ord i x (rwT t.ring wx wy t.arcs ord i T x):=by unfold rwT;rw[ynj,ymp];rfl
 have r1:x<J->∀ s,Weak s (f7S t wx wy I J N (plT t.ring wx wy t.arcs ord i x (rwT t.ring wx wy t.arcs ord i T x)) ord i (x+1))->R .normal s (some A):=fun h s hw=>by subst hR;rw[<- hst]at hw;exact⟨fun _=>⟨J - (x+1),by omega,x+1,by omega,rfl,hw,rfl⟩,fun h=>absurd rfl h⟩
 have r2:x=J->∀ s,Weak s (f7S t wx wy I J N (rwT t.ring wx wy t.arcs ord i T x) ord i x)->R (.exit 2) s (some A):=fun h s hw=>by subst hR;refine⟨fun h=>(by cases h),fun _=>⟨rfl,rfl,?_⟩⟩;rw[h]at hw;exact hw
 clear hR hw hst;obtain⟨k1,k2⟩:=z2g fo (i:=i) (ord:=ord) (by omega) h hv x (by omega);generalize rwT t.ring wx wy t.arcs ord i T x=Tx at *
 rw[ygn];unfold flC6 flC5;by_cases hlt:x<J
 ·have r3:=r1 hlt;clear r1 r2;have e1:=i64s x (by omega);have hlx:B+x*(ord.length*sLv c t.arcs)+ord.length*sLv c t.arcs<=M.lim:=by have:=ylw (ord.length*sLv c t.arcs) (ypf hlt);rw[ym9]at this;omega
  have hloop:=fun(s:St) hw=>ydh fo hI hJ hN lI lJ hi hlt ho ol k1 k2 hlx A (s:=s) hw;have hZ:∀ s,Weak s (f3S t wx wy I J N (plT t.ring wx wy t.arcs ord i x Tx) ord i x ord.length)->MR P 104 flC4.er s (some A) R:=fun s hw=>by refine MR.weak (hw.trans (f3_7 _ _ _ _ _ _ _ _ _ _ _)) (MR.of_vm ?_);simp[flC4,f7S,go_sem,hpT,tabV,e1];refine r3 _ (Weak.toF [0,1,4,15,16,26,27] [900000,900001,900002,900003] [] ?_);simp[go_sem,f7S,hpT,tabV];exact zas I J N _
  have hA:MR P 104 flC3.er (f7S t wx wy I J N Tx ord i x) (some A) fun ex s B=>(exB 3 ex=.normal->MR P 104 flC4.er s B R)/\(exB 3 ex ≠ .normal->R (exB 3 ex) s B):=by
   unfold flC3 flC2 flC1;generalize (GC.loop g.od)=L at *
   refine MR.gseq ?_;generalize flC4=FC4 at *
   simp[f7S,go_sem,hpT,tabV];refine MR.gseq ?_;simp[go_sem,zdp];refine MR.gblk ((hloop _ (Weak.toF [0,1,4,5,15,16,26,27,30,31,32] [900000,900001,900002,900003] [] ?_)).mono ?_)
   ·simp[go_sem,f3S,hpT,tabV,zdp];exact zas I J N Tx
   ·rintro ex s B ⟨rfl,rfl,hw⟩;exact⟨fun _=>hZ s hw,fun h=>absurd rfl h⟩
  refine MR.gseq ?_;generalize flC3=FA0 at *
  simp[f7S,go_sem,hlt];refine MR.gseq' (MR.gcond (t:=true) (by simp[go_sem,hlt]) (fun _=>MR.gnop ⟨fun _=>?_,fun h=>absurd rfl h⟩) (fun h=>(by cases h)));refine MR.gseq' (MR.gblk ?_);refine MR.weak ?_ hA;refine Weak.toF [0,1,4,15,16,26,27] [900000,900001,900002,900003] [] ?_;simp[go_sem,f7S,hpT,tabV];exact zas I J N Tx
 ·have hx':x=J:=by omega
  have r3:=r2 hx';clear r1 r2;refine MR.gseq ?_;generalize flC3=FA0 at *
  generalize flC4=FZ0 at *
  simp[f7S,go_sem,hlt];refine MR.gseq' (MR.gcond (t:=false) (by simp[go_sem,hlt]) (fun h=>(by cases h)) (fun _=>MR.gext ⟨fun h=>(by cases h),fun _=>r3 _ ?_⟩));refine Weak.toF [0,1,4,15,16,26,27] [900000,900001,900002,900003] [] ?_;simp[go_sem,f7S,hpT,tabV];exact zas I J N Tx
theorem yde{B:Nat}{T:List (List GW)}{ord:List Nat}(ho:∀ q∈ord,q<N)(ol:ord.length<=1000)(h:zcf t.ring (plN wx wy) t.st.toNat T)(hv:vbT M B T)(hl:B+I*(J*(ord.length*sLv c t.arcs))<=M.lim)(A:FA){s:St}(hw:Weak s (f8S t wx wy I J N T ord 0)) :
  MR P 104 (GC.loop g.og).er s (some A) fun ex s B=>ex=.exit 0/\B=some A/\Weak s (f8S t wx wy I J N (flT t.ring wx wy t.arcs ord T I) ord I):=by
 refine MR.gloop (I:=fun n s B=>∃ x,x<=I/\n=I - x/\Weak s (f8S t wx wy I J N (flT t.ring wx wy t.arcs ord T x) ord x)/\B=some A) I ⟨0,by omega,by omega,hw,rfl⟩ ?_;rintro n0 s B ⟨x,hx,rfl,hw,rfl⟩;refine MR.weak hw ?_;generalize hR:(fun(ex:Exit) (s:St) (B:Option FA)=>(ex=.normal->∃ m,m<I - x/\∃ x,x<=I/\m=I - x/\Weak s (f8S t wx wy I J N (flT t.ring wx wy t.arcs ord T x) ord x)/\B=some A)/\(ex ≠ .normal->ex=.exit 0/\B=some A/\Weak s (f8S t wx wy I J N (flT t.ring wx wy t.arcs ord T I) ord I)))=R;have hst:flT t.ring wx wy t.arcs ord T (x+1)=rwT t.ring wx wy t.arcs ord x (flT t.ring wx wy t.arcs ord T x) J:=by unfold flT;rw[ynj,ymp,hJ];rfl
 have r1:x<I->∀ s,Weak s (f8S t wx wy I J N (rwT t.ring wx wy t.arcs ord x (flT t.ring wx wy t.arcs ord T x) J) ord (x+1))->R .normal s (some A):=fun h s hw=>by subst hR;rw[<- hst]at hw;exact⟨fun _=>⟨I - (x+1),by omega,x+1,by omega,rfl,hw,rfl⟩,fun h=>absurd rfl h⟩
 have r2:x=I->∀ s,Weak s (f8S t wx wy I J N (flT t.ring wx wy t.arcs ord T x) ord x)->R (.exit 0) s (some A):=fun h s hw=>by subst hR;refine⟨fun h=>(by cases h),fun _=>⟨rfl,rfl,?_⟩⟩;rw[h]at hw;exact hw
 clear hR hw hst;obtain⟨k1,k2⟩:=z5a fo (ord:=ord) h hv x (by omega);rw[<- hJ]at k2;generalize flT t.ring wx wy t.arcs ord T x=Tx at *
 rw[ygm];unfold flD6 flD5;by_cases hlt:x<I
 ·have r3:=r1 hlt;clear r1 r2;have e1:=i64s x (by omega);have hlx:B+x*(J*(ord.length*sLv c t.arcs))+J*(ord.length*sLv c t.arcs)<=M.lim:=by have:=ylw (J*(ord.length*sLv c t.arcs)) (ypf hlt);rw[ym9]at this;omega
  have hloop:=fun(s:St) hw=>ydf fo hI hJ hN lI lJ hlt ho ol k1 k2 hlx A (s:=s) hw;have hZ:∀ s,Weak s (f7S t wx wy I J N (rwT t.ring wx wy t.arcs ord x Tx J) ord x J)->MR P 104 flD4.er s (some A) R:=fun s hw=>by refine MR.weak (hw.trans (f7_8 _ _ _ _ _ _ _ _ _ _)) (MR.of_vm ?_);simp[flD4,f8S,go_sem,hpT,tabV,e1];refine r3 _ (Weak.toF [0,1,15,16] [900000,900001,900002,900003] [] ?_);simp[go_sem,f8S,hpT,tabV];exact zas I J N _
  have hA:MR P 104 flD3.er (f8S t wx wy I J N Tx ord x) (some A) fun ex s B=>(exB 1 ex=.normal->MR P 104 flD4.er s B R)/\(exB 1 ex ≠ .normal->R (exB 1 ex) s B):=by
   have r1:(List.map (outV J) (List.range I))[x]?=some (outV J x):=by rw[yme,ync hlt];rfl
   have e2:=zj4 (N:=N) (J:=J) hlt;unfold flD3 flD2 flD1;generalize (GC.loop g.oe)=L at *
   refine MR.gseq ?_;generalize flD4=FC4 at *
   simp[f8S,go_sem,hpT,tabV];refine MR.gseq ?_;simp[go_sem,zdp];refine⟨hlt,?_⟩;rw[zbx];refine⟨_,r1,?_⟩;simp[go_sem,outV,e2,hlt];refine MR.gblk ((hloop _ (Weak.toF [0,1,4,15,16,26,27] [900000,900001,900002,900003] [] ?_)).mono ?_)
   ·simp[go_sem,f7S,hpT,tabV,zdp];exact zas I J N Tx
   ·rintro ex s B ⟨rfl,rfl,hw⟩;exact⟨fun _=>hZ s hw,fun h=>absurd rfl h⟩
  refine MR.gseq ?_;generalize flD3=FA0 at *
  simp[f8S,go_sem,hlt];refine MR.gseq' (MR.gcond (t:=true) (by simp[go_sem,hlt]) (fun _=>MR.gnop ⟨fun _=>?_,fun h=>absurd rfl h⟩) (fun h=>(by cases h)));refine MR.gseq' (MR.gblk ?_);refine MR.weak ?_ hA;refine Weak.toF [0,1,15,16] [900000,900001,900002,900003] [] ?_;simp[go_sem,f8S,hpT,tabV];exact zas I J N Tx
 ·have hx':x=I:=by omega
  have r3:=r2 hx';clear r1 r2;refine MR.gseq ?_;generalize flD3=FA0 at *
  generalize flD4=FZ0 at *
  simp[f8S,go_sem,hlt];refine MR.gseq' (MR.gcond (t:=false) (by simp[go_sem,hlt]) (fun h=>(by cases h)) (fun _=>MR.gext ⟨fun h=>(by cases h),fun _=>r3 _ ?_⟩));refine Weak.toF [0,1,15,16] [900000,900001,900002,900003] [] ?_;simp[go_sem,f8S,hpT,tabV];exact zas I J N Tx
theorem z9g{B:Nat}{T:List (List GW)}{ord:List Nat}(ho:∀ q∈ord,q<N)(ol:ord.length<=1000)(h:zcf t.ring (plN wx wy) t.st.toNat T)(hv:vbT M B T)(hl:B+I*(J*(ord.length*sLv c t.arcs))<=M.lim) :
  HSp P F.jv [.ptr 900000 0 0 0,.p (.sl (ens (toI ord)))] (hpT t wx wy I J N T) (.tup []) (hpT t wx wy I J N (flT t.ring wx wy t.arcs ord T I)):=by
 refine HSp.of_mr Go.Ab.c.jv (by simp) (by simp[hpT,PINB]) (by simp[hpT]) ?_ fun A hA=>?_
 ·show(true&&hpOk [900000,900001,900002,900003] (hpT t wx wy I J N _))=true;rw[zp8];rfl
 have hloop:=fun(s:St) hw=>yde fo hI hJ hN lI lJ ho ol h hv hl A (s:=s) hw;rw[ygl];unfold flE1;generalize (GC.loop g.og)=L at *
 refine MR.gseq ?_;simp[go_sem,zeg,hpT,tabV];refine MR.gblk ((hloop _ (Weak.toF [0,1,15,16] [900000,900001,900002,900003] [] ?_)).mono ?_)
 ·simp[go_sem,f8S,hpT,tabV,zdp];exact zas I J N T
 ·rintro ex s B ⟨rfl,rfl,hw⟩;refine⟨rfl,.inr rfl,_,hw,[],rfl,rfl,?_⟩;simp[zo3,St.site,look,f8S,hpT];rfl
end
def tabU(t:GTrans)(wx wy:List Int)(I:Nat):AV:=.agg [.p (.int .i64 t.ring.kind),.p (.sl (ens t.ring.parts)),.p (.int .i64 t.i),.p (.int .i64 t.o),.p (.int .i64 t.st),.p (.sl (ens t.ini)),.p (.sl (ens t.fin)),.p (.sl (ens t.arcs)),.p (.sl (ens wx)),.p (.sl (ens wy)),.own 800001 0 0 I]
def rowU(N b j:Nat):AV:=.own 800003 (b+j) 0 N
def outU(J i:Nat):AV:=.own 800002 i 0 J
def famU(I J N:Nat):List (Option AObj):=(List.range I).map fun i=>some ⟨1,(List.range J).map (rowU N (i*J))⟩
def zTbl(t:GTrans)(N n:Nat):List (List GW):=List.replicate n (List.replicate N t.ring.zero)
def z8:AV:=.agg [.p (.bool false),.nil,.nil,.p (.int .i64 0),.p (.bool false),.p (.int .u64 0),.nil,.nil]
def u1S(t:GTrans)(wx wy:List Int)(I J N:Nat)(ord:List Nat)(i k:Nat):St :=
 ⟨[(1,.p (.sl (ens wx))),(2,.p (.sl (ens wy))),(3,.ptr 3 0 0 0),(6,.ptr 6 0 0 0),(9,.p (.sl (ens (toI ord)))),(10,.ptr 800000 0 0 0),(11,.own 800004 0 0 k),(55,.p (.int .i64 I)),(56,.p (.int .i64 i)),(60,.p (.int .i64 J)),(61,.p (.int .i64 k))],
  [(3,[some ⟨8,[.p (enc t)]⟩]),(6,[some ⟨8,[z8]⟩]),(800000,[some ⟨11,[tabU t wx wy i]⟩]),(800001,[some ⟨1,(List.range i).map (outU J)⟩]),(800002,famU i J N),(800003,famC (zTbl t N (i*J+k))),(800004,[some ⟨1,(List.range k).map (rowU N (i*J))⟩]),(DEAD,[none])]⟩
theorem Weak.planTo{st st':St}(keep:List Nat)(plan:List (Nat × List (Nat × Nat)))(h:zir st.hp plan=true)(he:st.plan keep plan=st'):Weak st st':=he ▸ Weak.plan keep plan h
theorem Weak.planTo'{st st':St}(keep:List Nat)(plan:List (Nat × List (Nat × Nat)))(h:zir st.hp plan=true)(f:Sg->Prop)(hf:f (sgP st plan))(he:∀ σ,f σ -> (⟨keep.map fun t=>(t,Go.Ab.sub σ (st.get t)),hpP st σ plan⟩:St)=st'):Weak st st':=Weak.planTo keep plan h (he _ hf)
theorem zl3{σ : Sg}(h:∀ g,σ 800003 g=(800003,g))(N b k:Nat):subL σ ((List.range k).map (rowU N b))=(List.range k).map (rowU N b):=by rw[zbz,ynf];refine ymu fun j _=>?_;simp only[yob,rowU,sub,h]
theorem zq7{σ : Sg}(h:∀ g,σ 800002 g=(800002,g))(J I:Nat):subL σ ((List.range I).map (outU J))=(List.range I).map (outU J):=by rw[zbz,ynf];refine ymu fun j _=>?_;simp only[yob,outU,sub,h]
theorem yfe(σ : Sg)(l:List PV):subL σ (l.map .p)=l.map .p:=by rw[zbz,ynf];rfl
theorem zqu(σ : Sg){α : Type}[Enc α](l:List α):subL σ (avs l)=avs l:=yfe σ (ens l)
theorem zme(σ : Sg)(T:List (List GW)):(famC T).map (Option.map (subO σ))=famC T:=by unfold famC;rw[ynf];refine ymu fun l _=>?_;simp only[yob,yp0,subO,zqu]
theorem zr8{σ : Sg}(h:∀ g,σ 800003 g=(800003,g))(I J N:Nat):(famU I J N).map (Option.map (subO σ))=famU I J N:=by unfold famU;rw[ynf];refine ymu fun l _=>?_;simp only[yob,yp0,subO,zl3 h]
theorem zl0(σ : Sg)(l r:List AV):subL σ (l++r)=subL σ l++subL σ r:=by simp[zbz]
theorem zr9(T:List (List GW)):(famC T).length=T.length:=by simp[famC]
theorem z1e(t:GTrans)(N n:Nat):(zTbl t N n).length=n:=by simp[zTbl]
theorem ya9(t:GTrans)(N n:Nat):famC (zTbl t N (n+1))=famC (zTbl t N n)++[some ⟨8,avs (List.replicate N t.ring.zero)⟩]:=by unfold zTbl famC;rw[yqd,yn0];rfl
theorem ybf{t:GTrans}{wx wy:List Int}{I J N:Nat}{ord:List Nat}{i:Nat}(hst:t.st=(N:Int))(hN:N<=1000)(hJ:J<=1000){Q:Exit->St->Prop}{ks:List Kt}{st:St}(hw:Weak st (u1S t wx wy I J N ord i 0))
  (hx:zn9 P 132 Q (zek 3 ks) 3 (u1S t wx wy I J N ord i J)):vL P 132 Q g.n8 ks st:=by
 refine zai (S:=fun k:Nat=>u1S t wx wy I J N ord i k) (I:=fun k=>k<=J) (m:=fun k=>J - k) 0 hw (by omega) ?_;rintro k h1 R hn hr hx';by_cases hk:k<J
 ·simp[g.n8,u1S,go_sem,hst,hk];refine zcw (z6r t.ring N hN) (by simp[go_sem]) ⟨zej _ _ rfl,by decide,by simp[ens,LIM];omega⟩ _ rfl ?_;have e1:=i64s k (by omega);simp[go_sem,e1];refine⟨by omega,hn (k+1) _ (Weak.planTo' [1,2,3,6,9,10,11,55,56,60,61] [(3,[(3,0)]),(6,[(6,0)]),(800000,[(800000,0)]),(800001,[(800001,0)]),(800002,[(800002,0)]),(800003,[(800003,0),(68,0)]),(800004,[(70,0)])] (by simp[zir,zrf,zg5,PINB,DEAD]) (fun σ => σ 3 0=(3,0) /\ σ 6 0=(6,0) /\ σ 800000 0=(800000,0) /\ σ 800001 0=(800001,0)/\(∀ g,σ 800002 g=(800002,g))/\(∀ g,σ 800003 g=(800003,g)) /\ σ 68 0=(800003,i*J+k) /\ σ 70 0=(800004,0)) ?_ ?_) (by omega) (by omega)⟩
  ·simp[sgP,ziz,zf5,St.site,look,zr9,z1e]
  ·rintro σ ⟨s1,s2,s3,s4,s5,s6,s7,s8⟩;have hz:subL σ (List.replicate N (AV.p (enc t.ring.zero)))=List.replicate N (AV.p (enc t.ring.zero)):=by rw[<- zsm,zqu]
   rw[ygx]at hz;simp[hpP,catS,sub,subO,subL,St.get,look,St.site,u1S,hst,s1,s2,s3,s4,s7,s8,tabU,z8,zl3 s6,zq7 s5,zr8 s6,zme,zl0,<- Nat.add_assoc,ya9,ynj,hz];exact⟨by simp[go_sem,hst],by simp[go_sem],rfl⟩
 ·have hk':k=J:=by omega
  subst hk';simp[g.n8,u1S,go_sem,hk];exact hx' 3 _ hx
def u2S(t:GTrans)(wx wy:List Int)(I J N:Nat)(ord:List Nat)(i:Nat):St :=
 ⟨[(1,.p (.sl (ens wx))),(2,.p (.sl (ens wy))),(3,.ptr 3 0 0 0),(6,.ptr 6 0 0 0),(9,.p (.sl (ens (toI ord)))),(10,.ptr 800000 0 0 0),(55,.p (.int .i64 I)),(56,.p (.int .i64 i))],
  [(3,[some ⟨8,[.p (enc t)]⟩]),(6,[some ⟨8,[z8]⟩]),(800000,[some ⟨11,[tabU t wx wy i]⟩]),(800001,[some ⟨1,(List.range i).map (outU J)⟩]),(800002,famU i J N),(800003,famC (zTbl t N (i*J))),(DEAD,[none])]⟩
theorem z9h(I J N:Nat):(famU I J N).length=I:=by simp[famU]
theorem z5c(I J N:Nat):famU (I+1) J N=famU I J N++[some ⟨1,(List.range J).map (rowU N (I*J))⟩]:=by unfold famU;rw[ynj,yn0];rfl
theorem ybe{t:GTrans}{wx wy:List Int}{I J N:Nat}{ord:List Nat}(hst:t.st=(N:Int))(hN:N<=1000)(hJ:J<=1000)(hI:I<=1000)(hJ':J=wy.length+1){Q:Exit->St->Prop}{ks:List Kt}{st:St}(hw:Weak st (u2S t wx wy I J N ord 0))
  (hx:zn9 P 132 Q (zek 1 ks) 1 (u2S t wx wy I J N ord I)):vL P 132 Q g.nj ks st:=by
 refine zai (S:=fun i:Nat=>u2S t wx wy I J N ord i) (I:=fun i=>i<=I) (m:=fun i=>I - i) 0 hw (by omega) ?_;rintro i h1 R hn hr hx';by_cases hi:i<I
 ·have e1:IntKind.i64.wrap ((wy.length:Int)+1)=(J:Int):=(i64w (by omega) (by omega)).trans (by omega);have e2:=i64s i (by omega);simp[g.nj,u2S,go_sem,hi,e1];refine ybf (wx:=wx) (wy:=wy) (I:=I) (J:=J) (N:=N) (ord:=ord) (i:=i) hst hN hJ (Weak.nl 11 800004 1 rfl (Weak.planTo' [1,2,3,6,9,10,11,55,56,60,61] [(3,[(3,0)]),(6,[(6,0)]),(800000,[(800000,0)]),(800001,[(800001,0)]),(800002,[(800002,0)]),(800003,[(800003,0)]),(800004,[(800004,0)])] ?_ (fun σ => σ 3 0=(3,0) /\ σ 6 0=(6,0) /\ σ 800000 0=(800000,0) /\ σ 800001 0=(800001,0)/\(∀ g,σ 800002 g=(800002,g))/\(∀ g,σ 800003 g=(800003,g)) /\ σ 800004 0=(800004,0)) ?_ ?_)) ?_
  ·simp[zir,zrf,zg5,PINB,DEAD,St.alloc,St.put]
  ·simp[sgP,ziz,zf5,St.site,look,zr9,z1e,St.alloc,St.put]
  ·rintro σ ⟨s1,s2,s3,s4,s5,s6,s7⟩;simp[hpP,catS,Go.Ab.sub,subO,subL,St.get,look,St.site,u1S,s1,s2,s3,s4,s7,tabU,z8,zl3 s6,zq7 s5,zr8 s6,zme,zl0,St.alloc,St.put];rfl
  ·simp[u1S,go_sem,tabU,e2];refine⟨by omega,hn (i+1) _ (Weak.planTo' [1,2,3,6,9,10,55,56] [(3,[(3,0)]),(6,[(6,0)]),(800000,[(800000,0)]),(800001,[(79,0)]),(800002,[(800002,0),(800004,0)]),(800003,[(800003,0)])] ?_ (fun σ => σ 3 0=(3,0) /\ σ 6 0=(6,0) /\ σ 800000 0=(800000,0) /\ σ 79 0=(800001,0)/\(∀ g,σ 800002 g=(800002,g))/\(∀ g,σ 800003 g=(800003,g)) /\ σ 800004 0=(800002,i)) ?_ ?_) (by omega) (by omega)⟩
   ·simp[zir,zrf,zg5,PINB,DEAD]
   ·simp[sgP,ziz,zf5,St.site,look,zr9,z1e,z9h]
   ·rintro σ ⟨s1,s2,s3,s4,s5,s6,s7⟩;have e3:(i+1)*J=i*J+J:=ym9 i J;simp[hpP,catS,Go.Ab.sub,subO,subL,St.get,look,St.site,u2S,s1,s2,s3,s4,s7,tabU,z8,zl3 s6,zq7 s5,zr8 s6,zme,zl0,z5c,ynj,e3];exact⟨rfl,rfl⟩
 ·have hi':i=I:=by omega
  subst hi';simp[g.nj,u2S,go_sem,hi];exact hx' 1 _ hx
end Go.Ab
namespace Go.Ab
def tc(on:List Bool):Nat:=on.count true
theorem z3y(on:List Bool)(i y:Nat):(on.set i true).getD y false=true ↔ on.getD y false=true\/(i=y/\y<on.length):=by
 rw[ylr,ylr];by_cases h:i=y
 ·subst h;by_cases hl:i<on.length
  ·rw[ypd hl];simp[hl]
  ·rw[yn4 (by simp;omega),yn4 (by omega)];simp[hl]
 ·rw[yor h];simp[h]
theorem zvc(on:List Bool)(p:Int × Int)(y:Nat):(spS on p).getD y false=true ↔ on.getD y false=true\/(on.getD p.1.toNat false=true/\p.2.toNat=y/\y<on.length):=by
 unfold spS;split
 ·rename_i h;rw[z3y];exact⟨fun k=>k.imp id fun k=>⟨h,k⟩,fun k=>k.imp id fun k=>k.2⟩
 ·rename_i h;exact⟨.inl,fun k=>k.elim id fun k=>absurd k.1 h⟩
theorem zje(ps:List (Int × Int))(y:Nat):∀ {on:List Bool},on.getD y false=true->(spR ps on).getD y false=true:=by
 induction ps with
 | nil=>exact fun h=>h
 | cons p ps ih=>exact fun h=>ih ((zvc _ p y).2 (.inl h))
theorem ybt(a b:List (Int × Int))(on:List Bool):spR (a++b) on=spR b (spR a on):=ymp ..
theorem zzw{ps:List (Int × Int)}{on:List Bool}(h:spR ps on=on):∀ p∈ps,p.2.toNat<on.length->on.getD p.1.toNat false=true->on.getD p.2.toNat false=true:=by intro p hp hl h1;obtain⟨a,b,rfl⟩:=yp9 hp;have h2:(spR b (spS (spR a on) p)).getD p.2.toNat false=true:=zje b _ ((zvc _ _ _).2 (.inr ⟨zje a _ h1,rfl,by rw[zki];exact hl⟩));have h3:spR (a++p::b) on=spR b (spS (spR a on) p):=ybt a (p::b) on;rw[<- h3,h]at h2;exact h2
theorem ybs{ps:List (Int × Int)}{C:Nat->Prop}(hC:∀ p∈ps,C p.1.toNat->C p.2.toNat):∀ {on:List Bool},(∀ y,on.getD y false=true->C y)->∀ y,(spR ps on).getD y false=true->C y:=by
 induction ps with
 | nil=>exact fun h=>h
 | cons p ps ih =>
  intro on h;refine ih (fun q hq=>hC q (ym8 _ hq)) fun y hy=>?_;rcases(zvc _ _ _).1 hy with h1|⟨h1,rfl,_⟩
  ·exact h y h1
  ·exact hC p ymq (h _ h1)
theorem zvd{ps:List (Int × Int)}{C:Nat->Prop}(hC:∀ p∈ps,C p.1.toNat->C p.2.toNat):∀ (n:Nat) {on:List Bool},(∀ y,on.getD y false=true->C y)->∀ y,(spF ps n on).getD y false=true->C y
 | 0,_,h=>h
 | n+1,_,h=>zvd hC n (ybs hC h)
theorem zxj(ps:List (Int × Int))(y:Nat):∀ (n:Nat) {on:List Bool},on.getD y false=true->(spF ps n on).getD y false=true
 | 0,_,h=>h
 | n+1,_,h=>zxj ps y n (zje ps y h)
theorem yfc:∀ (on:List Bool),tc on<=on.length:=fun on=>List.count_le_length
theorem z1v:∀ {a b:List Bool},a.length=b.length->(∀ y,a.getD y false=true->b.getD y false=true)->a≠b->tc a<tc b
 | [],[],_,_,h=>absurd rfl h
 | x::a,y::b,hl,h,hne=>by
  have h0:=h 0;have hs:∀ k,a.getD k false=true->b.getD k false=true:=fun k=>h (k+1);simp only[List.getD_cons_zero]at h0;have hle:tc a<=tc b:=by
   by_cases e:a=b
   ·rw[e];exact yl8 _
   ·exact Nat.le_of_lt (z1v (by simpa using hl) hs e)
  unfold tc at *
  by_cases e:a=b
  ·subst e;cases x<;>cases y<;>simp[List.count_cons]at h0 hne ⊢
  ·have:=z1v (a:=a) (b:=b) (by simpa using hl) hs e;unfold tc at this;cases x<;>cases y<;>simp[List.count_cons]at h0 ⊢ <;> omega
theorem zxi(ps:List (Int × Int))(on:List Bool):∀ k,(∃ j,j<=k/\spR ps (spF ps j on)=spF ps j on)\/k+1<=tc (spF ps (k+1) on)
 | 0=>by
  by_cases h:spR ps (spF ps 0 on)=spF ps 0 on
  ·exact .inl ⟨0,yl8 _,h⟩
  ·refine .inr ?_;have:=z1v (a:=on) (b:=spR ps on) (zki ps on).symm (fun y=>zje ps y) (fun e=>h e.symm);show 0+1<=tc (spR ps on);omega
 | k+1=>by
  rcases zxi ps on k with⟨j,h1,h2⟩|h
  ·exact .inl ⟨j,by omega,h2⟩
  ·by_cases hs:spR ps (spF ps (k+1) on)=spF ps (k+1) on
   ·exact .inl ⟨k+1,yl8 _,hs⟩
   ·refine .inr ?_;have:=z1v (a:=spF ps (k+1) on) (b:=spR ps (spF ps (k+1) on)) (zki ps _).symm (fun y=>zje ps y) (fun e=>hs e.symm);rw[zl1 ps (k+1)];omega
theorem z12{ps:List (Int × Int)}{on:List Bool}{j:Nat}(h:spR ps (spF ps j on)=spF ps j on):∀ d,spF ps (j+d) on=spF ps j on
 | 0=>rfl
 | d+1=>by rw[<- Nat.add_assoc,zl1,z12 h d,h]
theorem zzx(ps:List (Int × Int))(on:List Bool):spR ps (spF ps on.length on)=spF ps on.length on:=by
 rcases zxi ps on on.length with⟨j,h1,h2⟩|h
 ·have:=z12 h2 (on.length - j);rw[show j+(on.length - j)=on.length by omega]at this;rw[this];exact h2
 ·have:=yfc (spF ps (on.length+1) on);rw[zeb]at this;omega
theorem zv6(s:Nat)(ps:List (Int × Int))(n y:Nat):(mkR s ps n).getD y false=true ↔ ∃ p∈ps,p.1=(s:Int)/\p.2.toNat=y/\y<n:=by
 have key:∀ (ps:List (Int × Int)) (on:List Bool),(ps.foldl (mkS s) on).getD y false=true ↔ on.getD y false=true\/∃ p∈ps,p.1=(s:Int)/\p.2.toNat=y/\y<on.length:=by
  intro ps
  induction ps with
  | nil=>simp
  | cons p ps ih =>
   intro on;rw[yos,ih,z4c];unfold mkS;by_cases h:p.1=(s:Int)
   ·rw[yl0 h,z3y];constructor
    ·rintro((h1|h1)|⟨q,h1,h2⟩)
     ·exact .inl h1
     ·exact .inr ⟨p,ymq,h,h1⟩
     ·exact .inr ⟨q,ym8 _ h1,h2⟩
    ·rintro(h1|⟨q,h1,h2⟩)
     ·exact .inl (.inl h1)
     ·rcases yl7.1 h1 with rfl|h1
      ·exact .inl (.inr h2.2)
      ·exact .inr ⟨q,h1,h2⟩
   ·rw[yl1 h];constructor
    ·rintro(h1|⟨q,h1,h2⟩)
     ·exact .inl h1
     ·exact .inr ⟨q,ym8 _ h1,h2⟩
    ·rintro(h1|⟨q,h1,h2⟩)
     ·exact .inl h1
     ·rcases yl7.1 h1 with rfl|h1
      ·exact absurd h2.1 h
      ·exact .inr ⟨q,h1,h2⟩
 unfold mkR;rw[key,List.length_replicate];refine⟨fun k=>k.elim (fun k=>?_) id,.inr⟩;rw[ylr,yr2]at k;split at k<;>cases k
theorem ydw{n:Nat}{ps:List (Int × Int)}(pos:Nat->Nat)(hp:∀ p∈ps,pos p.1.toNat<pos p.2.toNat):cycF n ps=false:=by
 unfold cycF;rw[yqw];intro s hs;unfold cycB;intro hc;have:=zvd (C:=fun y=>pos s<pos y) (fun p hpm hlt=>Nat.lt_trans hlt (hp p hpm)) n (on:=mkR s ps n) (fun y hy=>by
  obtain⟨p,h1,h2,rfl,_⟩:=(zv6 s ps n y).1 hy;have:=hp p h1;rw[h2,ymy]at this;exact this) s hc
 omega
theorem z9v{n:Nat}{ps:List (Int × Int)}(h:∀ p∈ps,(0<=p.1/\p.1<n)/\0<=p.2/\p.2<n)(R:Nat->Prop){q0:Nat}(h0:q0<n)(hR0:R q0)(hR:∀ q,q<n->R q->∃ p∈ps,p.2=(q:Int)/\R p.1.toNat):cycF n ps=true:=by
 rcases ym0 (cycF n ps)with hc|hc
 ·exact hc
 exfalso;have hno:∀ s,s<n->cycB n ps s=false:=fun s hs=>by unfold cycF at hc;have:=(List.any_eq_false.1 hc) s (List.mem_range.2 hs);simpa using this
 have hcl:∀ s,∀ p∈ps,(spF ps n (mkR s ps n)).getD p.1.toNat false=true->(spF ps n (mkR s ps n)).getD p.2.toNat false=true:=fun s p hp h1=>by have hl:(mkR (s:Int) ps n).length=n:=zed ..;have:=zzx ps (mkR s ps n);rw[hl]at this;exact zzw this p hp (by rw[zeb,hl];obtain⟨_,a,b⟩:=h p hp;omega) h1
 have key:∀ m,∃ q,q<n/\R q/\m<=tc (spF ps n (mkR q ps n)):=by
  intro m
  induction m with
  | zero=>exact⟨q0,h0,hR0,ymb _⟩
  | succ m ih =>
   obtain⟨q,h1,h2,h3⟩:=ih;obtain⟨p,hp,hpq,hRp⟩:=hR q h1 h2;obtain⟨⟨a1,a2⟩,a3,a4⟩:=h p hp;have hpn:(p.1.toNat:Int)=p.1:=by omega
   have hq:(spF ps n (mkR p.1.toNat ps n)).getD q false=true:=zxj ps q n ((zv6 _ _ _ _).2 ⟨p,hp,hpn.symm,by rw[hpq];rfl,h1⟩);refine⟨p.1.toNat,by omega,hRp,?_⟩;have:tc (spF ps n (mkR q ps n))<tc (spF ps n (mkR p.1.toNat ps n)):=by
    refine z1v (by rw[zeb,zeb,zed,zed]) ?_ fun e=>?_
    ·refine zvd (C:=fun y=>(spF ps n (mkR p.1.toNat ps n)).getD y false=true) (fun p' hp' h'=>hcl _ p' hp' h') n fun y hy=>?_;obtain⟨p',k1,k2,rfl,_⟩:=(zv6 _ _ _ _).1 hy;refine hcl _ p' k1 ?_;rw[k2,ymy];exact hq
    ·have:=hno q h1;unfold cycB at this;rw[<- e,this]at hq;cases hq
   omega
 obtain⟨q,_,_,h3⟩:=key (n+1);have:=yfc (spF ps n (mkR q ps n));rw[zeb,zed]at this;omega
def kaA(q:Int)(s:List Int × List Int)(x:GTArc):List Int × List Int :=
 if x.f=q then(s.1.set x.t.toNat (s.1.getD x.t.toNat 0 - 1),if s.1.getD x.t.toNat 0 - 1=0 then s.2++[x.t]else s.2)else s
def kaL(E:List GTArc):Nat->Nat->List Int × List Int->List Int × List Int
 | 0,_,s=>s
 | f+1,i,s=>if i<s.2.length then kaL E f (i+1) (E.foldl (kaA (s.2.getD i 0)) s)else s
def kcn(E:List GTArc)(y:Int)(p:Int->Bool):Nat:=(E.filter fun x=>decide (x.t=y)&&p x.f).length
theorem zkw(A B:List GTArc)(y:Int)(p:Int->Bool):kcn (A++B) y p=kcn A y p+kcn B y p:=by unfold kcn;rw[ynn,yo4]
theorem zkv(x:GTArc)(y:Int)(p:Int->Bool):kcn [x] y p=if x.t=y/\p x.f=true then 1 else 0:=by
 unfold kcn;by_cases h:x.t=y/\p x.f=true
 ·rw[yl0 h];simp[h.1,h.2]
 ·rw[yl1 h,List.filter_cons_of_neg];rfl;simp only[ymf,decide_eq_true_eq];exact h
theorem zru{E:List GTArc}{y:Int}{p:Int->Bool}(h:kcn E y p=0):∀ x∈E,x.t=y->p x.f=false:=fun x hx hy=>by unfold kcn at h;have:=List.filter_eq_nil_iff.1 (List.eq_nil_of_length_eq_zero h) x hx;simpa[hy]using this
theorem yc3{E:List GTArc}{y:Int}{p:Int->Bool}(h:kcn E y p≠0):∃ x∈E,x.t=y/\p x.f=true:=by unfold kcn at h;obtain⟨x,hx⟩:=yqo (E.filter fun x=>decide (x.t=y)&&p x.f) (fun e=>h (by rw[e];rfl));obtain⟨h1,h2⟩:=ynl.1 hx;simp only[ymf,decide_eq_true_eq]at h2;exact⟨x,h1,h2⟩
def zc6(P:List Int)(f:Int):Bool:=decide (f∉P)
structure kaC (E:List GTArc) (N:Nat) (s:List Int × List Int):Prop where
 len:s.1.length=N
 nd:s.2.Nodup
 rng:∀ y∈s.2,0<=y/\y<(N:Int)
 mem:∀ y:Nat,y<N->((y:Int)∈s.2 ↔ s.1.getD y 0=0)
 ordv:∀ a y b,s.2=a++y::b->∀ x∈E,x.t=y->x.f∈a
structure kaM (E:List GTArc) (N:Nat) (P:List Int) (q:Int) (dn rs:List GTArc) (s:List Int × List Int):Prop where
 c:kaC E N s
 pre:∃ post,s.2=P++q::post
 cnt:∀ y:Nat,y<N->s.1.getD y 0=((kcn dn y (zc6 (P++[q]))+kcn rs y (zc6 P):Nat):Int)
structure kaH (E:List GTArc) (N i:Nat) (s:List Int × List Int):Prop where
 c:kaC E N s
 le:i<=s.2.length
 cnt:∀ y:Nat,y<N->s.1.getD y 0=((kcn E y (zc6 (s.2.take i)):Nat):Int)
theorem zk1(l:List Int)(i y:Nat)(v:Int)(h:i<l.length):(l.set i v).getD y 0=if i=y then v else l.getD y 0:=by
 rw[ylr,ylr];by_cases e:i=y
 ·subst e;rw[ypd h,yl0 rfl];rfl
 ·rw[yor e,yl1 e]
theorem kaM.step{E:List GTArc}{N:Nat}{P:List Int}{q:Int}{dn rs:List GTArc}{x:GTArc}{s:List Int × List Int}(h:kaM E N P q dn (x::rs) s)(hE:E=dn++x::rs)(hx:x.fit N):kaM E N P q (dn++[x]) rs (kaA q s x):=by
 obtain⟨⟨len,nd,rng,mem,ordv⟩,⟨post,hpre⟩,cnt⟩:=h;obtain⟨⟨a1,a2⟩,a3,a4⟩:=hx;have hqP:q∉P:=fun hm=>by rw[hpre]at nd;exact(yoa.1 nd).2.2 _ hm _ ymq rfl
 have hqs:q∈s.2:=by rw[hpre];simp
 have hPs:∀ f,f∈P->f∈s.2:=fun f hf=>by rw[hpre];simp[hf]
 unfold kaA;by_cases hf:x.f=q
 ·rw[yl0 hf];obtain⟨k,hk⟩:∃ k:Nat,x.t=k:=⟨x.t.toNat,by omega⟩;have hkN:k<N:=by omega
  have hkt:x.t.toNat=k:=by omega
  rw[hkt,hk];have hn1:zc6 P x.f=true:=by unfold zc6;rw[hf];simpa using hqP
  have hn2:zc6 (P++[q]) x.f=false:=by unfold zc6;rw[hf];simp
  have e0:=cnt k hkN;have e1:kcn (x::rs) k (zc6 P)=1+kcn rs k (zc6 P):=by rw[show x::rs=[x]++rs from rfl,zkw,zkv,yl0 ⟨hk,hn1⟩]
  rw[e1]at e0;have hnot:(k:Int)∉s.2:=fun hm=>by have:=(mem k hkN).1 hm;omega
  have ec:s.1.getD k 0 - 1=((kcn dn k (zc6 (P++[q]))+kcn rs k (zc6 P):Nat):Int):=by omega
  rw[ec];have hcnt:∀ y:Nat,y<N->(s.1.set k ((kcn dn k (zc6 (P++[q]))+kcn rs k (zc6 P):Nat):Int)).getD y 0=((kcn (dn++[x]) y (zc6 (P++[q]))+kcn rs y (zc6 P):Nat):Int):=fun y hy=>by
   rw[zk1 _ _ _ _ (by rw[len];exact hkN),zkw,zkv,yl1 (show ¬ (x.t=(y:Int)/\zc6 (P++[q]) x.f=true) from fun h=>by rw[hn2]at h;cases h.2),ymw];by_cases e:k=y
   ·subst e;rw[yl0 rfl]
   ·rw[yl1 e,cnt y hy,show x::rs=[x]++rs from rfl,zkw,zkv,yl1 (fun h=>e (by have:=hk.symm.trans h.1;omega)),ymm]
  by_cases hz:((kcn dn k (zc6 (P++[q]))+kcn rs k (zc6 P):Nat):Int)=0
  ·rw[yl0 hz];have z1:kcn dn k (zc6 (P++[q]))=0:=by omega
   have z2:kcn rs k (zc6 P)=0:=by omega
   refine⟨⟨by simpa using len,?_,?_,fun y hy=>?_,?_⟩,⟨post++[(k:Int)],by simp[hpre]⟩,hcnt⟩
   ·exact yoa.2 ⟨nd,by simp,fun a ha b hb e=>by simp at hb;subst hb;rw[e]at ha;exact hnot ha⟩
   ·intro y hy;rcases ylp.1 hy with hy|hy
    ·exact rng y hy
    ·simp at hy;subst hy;exact⟨by omega,by omega⟩
   ·simp only[ylp,ynh];rw[zk1 _ _ _ _ (by rw[len];exact hkN)];by_cases e:k=y
    ·subst e;rw[yl0 rfl];exact⟨fun _=>hz,fun _=>.inr rfl⟩
    ·rw[yl1 e];exact⟨fun h=>h.elim (mem y hy).1 fun h=>absurd (by omega) e,fun h=>.inl ((mem y hy).2 h)⟩
   ·intro a y b hab z hz1 hz2;rcases yr0 b with rfl|⟨b',w,rfl⟩
    ·have hh:s.2++[(k:Int)]=a++[y]:=hab;obtain⟨e1,e2⟩:=List.append_inj' hh rfl;subst e1;have e3:(k:Int)=y:=by simpa using e2
     rw[<- e3]at hz2;rw[hE]at hz1;rcases ylp.1 hz1 with h1|h1
     ·have:=zru z1 z h1 hz2;unfold zc6 at this;simp only[decide_eq_false_iff_not,Decidable.not_not,ylp,ynh]at this;rcases this with h|h
      ·exact hPs _ h
      ·rw[h];exact hqs
     ·rcases yl7.1 h1 with rfl|h1
      ·rw[hf];exact hqs
      ·have:=zru z2 z h1 hz2;unfold zc6 at this;simp only[decide_eq_false_iff_not,Decidable.not_not]at this;exact hPs _ this
    ·have hh:s.2++[(k:Int)]=(a++y::b')++[w]:=Eq.trans hab (by simp);obtain⟨e1,e2⟩:=List.append_inj' hh rfl;exact ordv a y b' e1 z hz1 hz2
  ·rw[if_neg hz];refine⟨⟨by simpa using len,nd,rng,fun y hy=>?_,ordv⟩,⟨post,hpre⟩,hcnt⟩;rw[zk1 _ _ _ _ (by rw[len];exact hkN)];by_cases e:k=y
   ·subst e;rw[yl0 rfl];exact⟨fun h=>absurd h hnot,fun h=>absurd h hz⟩
   ·rw[yl1 e];exact mem y hy
 ·rw[yl1 hf];refine⟨⟨len,nd,rng,mem,ordv⟩,⟨post,hpre⟩,fun y hy=>?_⟩;rw[cnt y hy,show x::rs=[x]++rs from rfl,zkw,zkw,zkv,zkv];have:zc6 (P++[q]) x.f=zc6 P x.f:=by unfold zc6;simp[hf]
  rw[this];omega
theorem kaM.fold{E:List GTArc}{N:Nat}{P:List Int}{q:Int}(hfit:∀ x∈E,x.fit N):∀ (rs dn:List GTArc) {s:List Int × List Int},E=dn++rs->kaM E N P q dn rs s->kaM E N P q E [] (rs.foldl (kaA q) s)
 | [],dn,s,hE,h=>by rw[yom]at hE;subst hE;exact h
 | x::rs,dn,s,hE,h=>kaM.fold hfit rs (dn++[x]) (by rw[hE];simp) (h.step hE (hfit x (by rw[hE];simp)))
theorem kaH.next{E:List GTArc}{N i:Nat}{s:List Int × List Int}(hfit:∀ x∈E,x.fit N)(h:kaH E N i s)(hi:i<s.2.length):kaH E N (i+1) (E.foldl (kaA (s.2.getD i 0)) s):=by
 have hq:s.2.getD i 0=s.2[i]:=by rw[ylr,ylt hi];rfl
 have hsp:s.2=s.2.take i++s.2[i]::s.2.drop (i+1):=by rw[yr4,ynz]
 rw[hq];generalize hP:s.2.take i=P at hsp;generalize s.2[i]=q at hsp;have hPl:P.length=i:=by rw[<- hP,yms];omega
 have hm:kaM E N P q [] E s:=⟨h.c,⟨_,hsp⟩,fun y hy=>by rw[h.cnt y hy,hP];simp[kcn]⟩;obtain⟨c,⟨post,hpre⟩,cnt⟩:=kaM.fold hfit E [] rfl hm;refine⟨c,by rw[hpre];simp;omega,fun y hy=>?_⟩;rw[cnt y hy];have:(E.foldl (kaA q) s).2.take (i+1)=P++[q]:=by rw[hpre,show P++q::post=(P++[q])++post by simp,List.take_left' (by simp[hPl])]
 rw[this];simp[kcn]
theorem zro:∀ {l m:List Nat},l.Nodup->(∀ y∈l,y∈m)->l.length<=m.length
 | [],_,_,_=>ymb _
 | x::l,m,hn,h=>by rw[yn2]at hn;have hx:=h x ymq;have:=zro (l:=l) (m:=m.erase x) hn.2 fun y hy=>(List.mem_erase_of_ne (fun e=>hn.1 (by rw[<- e];exact hy))).2 (h y (ym8 _ hy));rw[List.length_erase_of_mem hx]at this;have:=List.length_pos_of_mem hx;simp only[yn6];omega
theorem zx8{l:List Int}(hn:l.Nodup)(h:∀ y∈l,0<=y):(l.map Int.toNat).Nodup:=by
 refine yqx.2 (yqp ?_ hn);intro a b ha hb hab e;have:=h a ha;have:=h b hb
 exact hab (by omega)
theorem kaC.le{E:List GTArc}{N:Nat}{s:List Int × List Int}(h:kaC E N s):s.2.length<=N:=by
 have:=zro (zx8 h.nd fun y hy=>(h.rng y hy).1) (m:=List.range N) fun y hy=>by obtain⟨z,hz,rfl⟩:=yl6.1 hy;have:=h.rng z hz;exact ymh.2 (by omega)
 simpa using this
theorem z4y{E:List GTArc}{N:Nat}(hfit:∀ x∈E,x.fit N):∀ (f i:Nat) {s:List Int × List Int},kaH E N i s->N<f+i->∃ s',kaL E f i s=s'/\kaH E N s'.2.length s'
 | 0,i,s,h,hf=>by have:=h.c.le;have:=h.le;omega
 | f+1,i,s,h,hf=>by
  simp only[kaL];by_cases hi:i<s.2.length
  ·rw[yl0 hi];exact z4y hfit f (i+1) (h.next hfit hi) (by omega)
  ·rw[yl1 hi];have:i=s.2.length:=by have:=h.le;omega
   subst this;exact⟨s,rfl,h⟩
theorem zv9{t:GTrans}(hfit:∀ x∈t.arcs,x.fit t.st.toNat){s:List Int × List Int}(h:kaH (t.arcs.filter emF) t.st.toNat s.2.length s) :
  (s.2.length<t.st.toNat ↔ cycF t.st.toNat (emP t.arcs)=true)/\(¬ s.2.length<t.st.toNat->tord t (s.2.map Int.toNat)):=by
 have hle:=h.c.le;have hmem:∀ x,x∈t.arcs.filter emF ↔ x∈t.arcs/\emF x=true:=fun x=>ynl;have hfull:¬ s.2.length<t.st.toNat->tord t (s.2.map Int.toNat):=fun hn=>by
  have hn2:=zx8 h.c.nd fun y hy=>(h.c.rng y hy).1;refine⟨hn2,fun q=>⟨fun hq=>?_,fun hq=>?_⟩,by rw[ymx];exact hle,fun pre q post e x hx he hf ht=>?_⟩
  ·obtain⟨z,hz,rfl⟩:=yl6.1 hq;have:=h.c.rng z hz;omega
  ·rcases Classical.em (q∈s.2.map Int.toNat)with hh|hh
   ·exact hh
   exfalso;have:=zro (l:=q::s.2.map Int.toNat) (m:=List.range t.st.toNat) (yn2.2 ⟨hh,hn2⟩) fun y hy=>by
    rcases yl7.1 hy with rfl|hy
    ·exact ymh.2 hq
    ·obtain⟨z,hz,rfl⟩:=yl6.1 hy;have:=h.c.rng z hz;exact ymh.2 (by omega)
   simp at this;omega
  ·
   obtain⟨⟨a1,a2⟩,a3,a4⟩:=hfit x hx;have hxE:=(hmem x).2 ⟨hx,he⟩;obtain⟨pre',rest,e1,e2,e3⟩:=List.map_eq_append_iff.1 e;obtain⟨q',post',e4,e5,e6⟩:=List.map_eq_cons_iff.1 e3;subst e2 e4;have hq':q'=x.f:=by have:=(h.c.rng q' (by rw[e1];simp)).1;omega
   subst hq';have hnd:=h.c.nd;rw[e1]at hnd;have hnp:x.f∉pre':=fun hm=>(yoa.1 hnd).2.2 _ hm _ ymq rfl;rcases ylp.1 ht with ht|ht
   ·obtain⟨z,hz,hz2⟩:=yl6.1 ht;have:=(h.c.rng z (by rw[e1];simp[hz])).1;have hzt:z=x.t:=by omega
    subst hzt;obtain⟨u,v,rfl⟩:=yp9 hz;have:=h.c.ordv u x.t (v++x.f::post') (by rw[e1];simp) x hxE rfl;exact hnp (by simp[this])
   ·simp only[ynh]at ht;have hft:x.f=x.t:=by omega
    have:=h.c.ordv pre' x.f post' e1 x hxE hft.symm;exact hnp this
 refine⟨⟨fun hlt=>?_,fun hc=>?_⟩,hfull⟩
 ·
  obtain⟨q0,h1,h2⟩:∃ q0,q0<t.st.toNat/\(q0:Int)∉s.2:=by
   rcases Classical.em (∃ q0,q0<t.st.toNat/\(q0:Int)∉s.2)with hh|hh
   ·exact hh
   exfalso;have:=zro (l:=List.range t.st.toNat) (m:=s.2.map Int.toNat) ypn fun y hy=>by
    have hy:=ymh.1 hy;rcases Classical.em ((y:Int)∈s.2)with hm|hm
    ·exact yl6.2 ⟨_,hm,by simp⟩
    ·exact absurd ⟨y,hy,hm⟩ hh
   simp at this;omega
  refine z9v (R:=fun q=>(q:Int)∉s.2) (fun p hp=>?_) h1 h2 fun q hq hR=>?_
  ·obtain⟨x,hx,rfl⟩:=z5g hp;obtain⟨⟨a1,a2⟩,a3,a4⟩:=hfit x hx;exact⟨⟨a1,a2⟩,a3,a4⟩
  ·have hne:kcn (t.arcs.filter emF) q (zc6 s.2)≠0:=fun e=>by have:=h.cnt q hq;rw[ym4,e]at this;exact hR ((h.c.mem q hq).2 this)
   obtain⟨x,hx,e1,e2⟩:=yc3 hne;obtain⟨⟨a1,a2⟩,a3,a4⟩:=hfit x ((hmem x).1 hx).1;refine⟨(x.f,x.t),yl6.2 ⟨x,hx,rfl⟩,e1,?_⟩;unfold zc6 at e2;have:((x.f.toNat:Nat):Int)=x.f:=by omega
   rw[this];exact of_decide_eq_true e2
 ·rcases ymk s.2.length t.st.toNat with hlt|hge
  ·exact hlt
  exfalso;have ho:=hfull (by omega);have:cycF t.st.toNat (emP t.arcs)=false:=ydw (fun q=>(s.2.map Int.toNat).idxOf q) fun p hp=>by obtain⟨x,hx,rfl⟩:=yl6.1 (show p∈(t.arcs.filter emF).map fun x=>(x.f,x.t) from hp);obtain⟨h1,h2⟩:=(hmem x).1 hx;obtain⟨⟨a1,a2⟩,a3,a4⟩:=hfit x h1;exact(ho.lt h1 h2 (by omega) (by omega)).1
  rw[this]at hc;cases hc
def inL(A:List GTArc)(N:Nat):List Int:=(List.range N).map fun(y:Nat)=>((kcn (A.filter emF) (y:Int) (fun _=>true):Nat):Int)
theorem zrz(A:List GTArc)(N:Nat):(inL A N).length=N:=by simp[inL]
theorem zr0{A:List GTArc}{N y:Nat}(h:y<N):(inL A N).getD y 0=((kcn (A.filter emF) y (fun _=>true):Nat):Int):=by unfold inL;rw[ylr,yme,ync h];rfl
theorem yc8(N:Nat):inL [] N=List.replicate N 0:=by unfold inL;rw[List.eq_replicate_iff];exact⟨by simp,fun b hb=>by obtain⟨y,_,rfl⟩:=yl6.1 hb;simp[kcn]⟩
theorem yax{A:List GTArc}{N:Nat}{x:GTArc}(h:emF x=false):inL (A++[x]) N=inL A N:=by unfold inL;rw[ynn];simp[h]
theorem yc7{A:List GTArc}{N:Nat}{x:GTArc}(h:emF x=true)(hx:x.fit N):inL (A++[x]) N=(inL A N).set x.t.toNat ((inL A N).getD x.t.toNat 0+1):=by
 obtain⟨_,a3,a4⟩:=hx;refine List.ext_getElem (by simp[inL]) fun y h1 h2=>?_;have hy:y<N:=by simpa[inL]using h1
 rw[List.getElem_set];have gt:∀ (B:List GTArc) (h:y<(inL B N).length),(inL B N)[y]'h=((kcn (B.filter emF) (y:Int) (fun _=>true):Nat):Int):=fun B h=>by simp only[inL,yqa,List.getElem_range]
 have e:(inL (A++[x]) N)[y]=((kcn (A.filter emF) (y:Int) (fun _=>true)+(if x.t=(y:Int)then 1 else 0):Nat):Int):=by rw[gt,ynn,zkw];simp[h,zkv]
 have e2:(inL A N)[y]'(by rw[zrz];exact hy)=((kcn (A.filter emF) (y:Int) (fun _=>true):Nat):Int):=gt A _;rw[e,e2];by_cases ht:x.t.toNat=y
 ·have:x.t=(y:Int):=by omega
  rw[yl0 ht,zr0 (by omega),yl0 this,ht];omega
 ·rw[yl1 ht,yl1 (by omega)];rfl
def ouL(I:List Int)(k:Nat):List Int:=((List.range k).filter fun q=>decide (I.getD q 0=0)).map fun(q:Nat)=>(q:Int)
theorem zx1(I:List Int)(k:Nat):ouL I (k+1)=if I.getD k 0=0 then ouL I k++[(k:Int)]else ouL I k:=by
 unfold ouL;rw[ynj,ynn,yn0];by_cases h:I.getD k 0=0
 ·rw[yl0 h];simp only[ypx,h,decide_true,yl2,List.filter_nil,ylx,yq7]
 ·rw[yl1 h];simp only[ypx,h,decide_false,ylz,yl9,List.filter_nil,yq7,yom]
theorem zq8{I:List Int}{k:Nat}{y:Int}:y∈ouL I k ↔ ∃ q:Nat,q<k/\I.getD q 0=0/\y=(q:Int):=by
 unfold ouL;rw[yl6];constructor
 ·rintro⟨q,hq,rfl⟩;obtain⟨h1,h2⟩:=ynl.1 hq;exact⟨q,ymh.1 h1,of_decide_eq_true h2,rfl⟩
 ·rintro⟨q,h1,h2,rfl⟩;exact⟨q,ynl.2 ⟨ymh.2 h1,decide_eq_true h2⟩,rfl⟩
theorem ycl(I:List Int)(k:Nat):(ouL I k).length<=k:=by unfold ouL;have:=List.length_filter_le (fun q=>decide (I.getD q 0=0)) (List.range k);simpa using this
theorem z4x(A:List GTArc)(N:Nat):kaH (A.filter emF) N 0 (inL A N,ouL (inL A N) N):=by
 refine⟨⟨zrz A N,?_,fun y hy=>?_,fun y hy=>?_,fun a y b hab x hx ht=>?_⟩,ymb _,fun y hy=>?_⟩
 ·unfold ouL;refine yqx.2 ?_;refine List.Pairwise.imp ?_ (List.Pairwise.filter _ ypn);intro a b h e;exact h (by omega)
 ·obtain⟨q,h1,h2,rfl⟩:=zq8.1 hy;omega
 ·constructor
  ·intro h;obtain⟨q,h1,h2,h3⟩:=zq8.1 h;have:y=q:=by omega
   rw[this];exact h2
  ·intro h;exact zq8.2 ⟨y,hy,h,rfl⟩
 ·have hy:y∈ouL (inL A N) N:=by have:ouL (inL A N) N=a++y::b:=hab;rw[this];simp
  obtain⟨q,h1,h2,rfl⟩:=zq8.1 hy;rw[zr0 h1]at h2;have:=zru (E:=A.filter emF) (y:=(q:Int)) (p:=fun _=>true) (by omega) x hx ht;cases this
 ·show(inL A N).getD y 0=_;rw[zr0 hy]
  congr 2
end Go.Ab
