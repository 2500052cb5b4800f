/-
Proofs for the law CountGoesOn, part 37. Conditions: none.
-/
import Derived.Test.YtdkocfjbmbenfaaGreatDoorCP36
import Derived.Test.YtdkocfjbmbenfaaGreatDoorCP22
import Derived.KernelRfl
set_option maxRecDepth 100000
set_option maxHeartbeats 4000000
set_option linter.all false
namespace Go.Ab
open Enc (enc)
attribute [local go_sem] zam Opd.slots
noncomputable def c2S (A:GAuto) (s:Int) (N m q n p:Nat):St :=
 ⟨[(0,.ptr 900000 0 0 0),(1,.p (.int .i64 q)),(2,.p (.int .i64 n)),(6,.ptr 6 0 0 0),(7,.own 24 0 0 N),(26,.p (.int .i64 N)),(27,.p (.int .i64 p))],
  hpC A s N m++[(6,[some ⟨3,[zR3]⟩]),(24,[some ⟨3,avs (rowG N (rw1 A m p 0))⟩]),(DEAD,[none])]⟩
theorem zpb (A:GAuto) (m p:Nat):rw1 A m p (cnA A m p)=rw1 A m (p+1) 0:=by
 funext q
 unfold rw1
 by_cases h1:q<p
 ·rw [if_pos h1,if_pos (by omega)]
 ·rw [if_neg h1]
  by_cases h2:q=p
  ·subst h2; rw [if_pos rfl,if_pos (by omega)]
  ·rw [if_neg h2,if_neg (by omega)]; split<;>rfl
theorem z7l:Sp P F.bc [.int .i64 1,.int .i64 1] (.pure (.tup [enc (natR 1),.int .i64 0])):=by
 have h:=zvf 1 1 (by omega) (by omega)
 have e:rto (Rat.divInt 1 1)=natR 1:=by rw [<- zji]; congr 1
 simp only [show ¬ ((1:Int)=0) by omega,if_false,e] at h
 exact h
theorem z3i {A:GAuto} {N:Nat} (hA:CtrOk A N) {s:Int} {m q n:Nat} (hm:m<900) {Q:Exit->St->Prop} {ks:List Kt} {st:St} (hw:Weak st (c2S A s N m q n 0)) (hx:zem P 106 Q (zbm 2 ks) 2 (c2S A s N m q n N)) :
  vL P 106 Q g.mz ks st:=by
 have i1:=hA.al
 have i3:=hA.N1
 refine zai (S:=fun p:Nat=>c2S A s N m q n p) (I:=fun p=>p<=N) (m:=fun p=>N - p) 0 hw (by omega) ?_
 rintro p hp R hn hr hx'
 have e1:=i64s p (by omega)
 by_cases hlt:p<N
 rotate_left
 ·have:p=N:=by omega
  subst this
  simp [g.mz,c2S,hpC,zR3,ctrV,go_sem]
  exact hx' _ _ (by simpa [c2S,hpC,zR3,ctrV,go_sem] using hx)
 have hnext:∀ s0:St,Weak s0 (c2S A s N m q n (p+1))->R .normal s0:=fun s0 h=>hn (p+1) s0 h (by omega) (by omega)
 cases m with
 | zero =>
  have hpf:p<(zax A).a.fin.length:=by show p<A.fin.length; rw [hA.fl]; exact hlt
  have hrow:p<(rowG N (rw1 A 0 p 0)).length:=by rw [zd7]; exact hlt
  simp [g.mz,c2S,hpC,zR3,ctrV,outQ,go_sem,hlt]
  refine zab (z2p (zax A) p hpf hA.fsm) ?_
  have hget:A.fin.getD p A.ring.zero=(zax A).a.fin[p]:=by
   show A.fin.getD p A.ring.zero=A.fin[p]'(by rw [hA.fl]; exact hlt)
   rw [List.getD_eq_getElem?_getD,List.getElem?_eq_getElem (by rw [hA.fl]; exact hlt)]; rfl
  by_cases hb:(zax A).a.fin[p]=(zax A).a.ring.zero
  ·have hc:cnA A 0 p=0:=by simp only [cnA,cn]; rw [if_pos (by rw [hget]; exact hb)]
   have hnx:=zpb A 0 p
   rw [hc] at hnx
   simp [go_sem,hb,e1]
   refine hnext _ (Weak.toF [0,1,2,6,7,26,27] [900000,900001,900002] [((6,0),6),((24,0),24)] ?_)
   simp [go_sem,c2S,hpC,zR3,ctrV,outQ,hnx]
   exact za6 A N 0
  ·have hc:cnA A 0 p=1:=by simp only [cnA,cn]; rw [if_neg (by rw [hget]; exact hb)]
   have hnx:=zpb A 0 p
   rw [hc] at hnx
   simp [go_sem,hb]
   refine zab z7l ?_
   simp [go_sem,e1,zd7,hlt]
   refine zae hrow ?_
   have hset:=zz1 A N 0 p 0 1
   rw [z2q,hnx] at hset
   refine hnext _ (Weak.toF [0,1,2,6,7,26,27] [900000,900001,900002] [((6,0),6),((24,0),24)] ?_)
   simp [go_sem,c2S,hpC,zR3,ctrV,outQ,hset]
   exact za6 A N 0
 | succ m =>
  have hnx:=zpb A (m+1) p
  have hz:¬ ((m:Int)+1=0):=by omega
  simp [g.mz,c2S,hpC,zR3,ctrV,outQ,go_sem,hlt,hz]
  refine zab (zoy A N p hA.inN hA.fs hlt (by omega) (by omega)) ?_
  simp [go_sem]
  refine yas (s:=s) (m:=m) (q:=q) (n:=n) (p:=p) hA (by omega) hlt (Weak.toF [0,1,2,6,7,8,26,27,54,55,56] [900000,900001,900002] [((6,0),6),((24,0),24)] ?_) ?_
  ·simp [go_sem,c1S,hpC,zR3,ctrV,outQ]
   exact za6 A N (m+1)
  ·simp [c1S,hpC,zR3,ctrV,outQ,go_sem,e1]
   refine hnext _ (Weak.toF [0,1,2,6,7,26,27] [900000,900001,900002] [((6,0),6),((24,0),24)] ?_)
   simp [go_sem,c2S,hpC,zR3,ctrV,outQ,hnx]
   exact za6 A N (m+1)
end Go.Ab
namespace Go.Ab
open Enc (enc)
attribute [local go_sem] zam Opd.slots
theorem zjm {st st':St} (keep:List Nat) (plan:List (Nat × List (Nat × Nat))) (h:zhs st.hp plan=true) (f:Sg->Prop) (hf:f (sgP st plan)) (he:∀ σ,f σ -> (⟨keep.map fun t=>(t,Go.Ab.sub σ (st.get t)),hpP st σ plan⟩:St)=st'):Weak st st':=by
 have e:st.plan keep plan=st':=he _ hf
 exact e ▸ Weak.plan keep plan h
theorem zww (T:List (List GRat)):(famQ T).length=T.length:=by simp [famQ]
theorem zrl (A:GAuto) (N m:Nat):(zjk A N m).length=m:=by simp [zjk,mp]
theorem zsg (A:GAuto) (N m:Nat):famQ (zjk A N (m+1))=famQ (zjk A N m)++[some ⟨3,avs (rowG N (cnA A m))⟩]:=by
 simp [famQ,zjk,mp,List.range_succ]
theorem z8i (σ : Sg) (l:List PV):subL σ (l.map .p)=l.map .p:=by
 rw [zcg,List.map_map]; rfl
theorem ztf (σ : Sg) {α : Type} [Enc α] (l:List α):subL σ (avs l)=avs l:=z8i σ (ens l)
theorem zwv (σ : Sg) (T:List (List GRat)):(famQ T).map (Option.map (subO σ))=famQ T:=by
 unfold famQ
 rw [List.map_map]
 refine List.map_congr_left fun l _=>?_
 simp only [Function.comp_apply,Option.map_some,subO,ztf]
theorem z2a (N m:Nat):(hisC N m).length=m:=by cases m<;>simp [hisC]
theorem z54 (N m:Nat):(hisC N (m+1)).set m none=List.replicate (m+1) none:=by
 rw [List.replicate_succ']
 simp [hisC,List.set_append]
theorem z4w {σ : Sg} (h:∀ g,σ 900002 g=(900002,g)) (N m:Nat):subL σ (mp m (rowC N))=mp m (rowC N):=by
 rw [zcg]; unfold mp
 rw [List.map_map]
 refine List.map_congr_left fun j _=>?_
 simp only [Function.comp_apply,rowC,sub,h]
theorem zt3 {α : Type} (n:Nat) (f:Nat -> α):mp (n+1) f=mp n f++[f n]:=by simp [mp,List.range_succ]
theorem zzi (σ : Sg) (l r:List AV):subL σ (l++r)=subL σ l++subL σ r:=by simp [zcg]
noncomputable def c3S (A:GAuto) (s:Int) (N m q n:Nat):St :=
 ⟨[(0,.ptr 900000 0 0 0),(1,.p (.int .i64 q)),(2,.p (.int .i64 n)),(6,.ptr 6 0 0 0)],hpC A s N m++[(6,[some ⟨3,[zR3]⟩]),(DEAD,[none])]⟩
theorem yar {A:GAuto} {N:Nat} (hA:CtrOk A N) {s:Int} {q n m0:Nat} (hn:n<800) (hm:m0<900) {Q:Exit->St->Prop} {ks:List Kt} {st:St} (hw:Weak st (c3S A s N m0 q n)) (hx:zem P 106 Q (zbm 0 ks) 0 (c3S A s N (max m0 (n+1)) q n)) :
  vL P 106 Q g.m8 ks st:=by
 have i3:=hA.N1
 refine zai (S:=fun m:Nat=>c3S A s N m q n) (I:=fun m=>m0<=m/\m<=max m0 (n+1)) (m:=fun m=>max m0 (n+1) - m) m0 hw ⟨by omega,by omega⟩ ?_
 rintro m ⟨hm1,hm2⟩ R hn' hr hx'
 have hst:(zax A).a.st=(N:Int):=hA.inN.st
 by_cases hlt:m<=n
 rotate_left
 ·have:m=max m0 (n+1):=by omega
  cases m with
  | zero=>omega
  | succ m =>
   have hnl:¬ ((m:Int)+1<=(n:Int)):=by omega
   have hnl2:¬ (m+1<=n):=by omega
   simp [g.m8,c3S,hpC,zR3,ctrV,outQ,go_sem,hnl,hnl2]
   rw [<- this] at hx
   exact hx' _ _ (by simpa [c3S,hpC,zR3,ctrV,outQ,go_sem] using hx)
 have hnext:∀ s0:St,Weak s0 (c3S A s N (m+1) q n)->R .normal s0:=fun s0 h=>hn' (m+1) s0 h ⟨by omega,by omega⟩ (by omega)
 have hz:avs (rowG N (rw1 A m 0 0))=List.replicate N (.p (.agg [.bool false,.sl [],.sl []])):=by
  have:rowG N (rw1 A m 0 0)=List.replicate N (natR 0):=by
   unfold rowG
   rw [<- zv4]
   apply zhg
   intro q _
   simp [rw1]
  rw [this,zga,zl0]; rfl
 have hend:rowG N (rw1 A m N 0)=rowG N (cnA A m):=by
  unfold rowG
  apply zhg
  intro q hq
  simp only [rw1]; rw [if_pos hq]
 cases m with
 | zero =>
  simp [g.m8,c3S,hpC,zR3,ctrV,outQ,go_sem,hst]
  refine ⟨by omega,?_⟩
  refine z3i (s:=s) (m:=0) (q:=q) (n:=n) hA (by omega) (Weak.toF [0,1,2,6,7,26,27] [900000,900001,900002] [((6,0),6),((24,0),24)] ?_) ?_
  ·simp [go_sem,c2S,hpC,zR3,ctrV,outQ,hz,hst]
   exact za6 A N 0
  ·simp [c2S,hpC,zR3,ctrV,outQ,go_sem,hend]
   refine hnext _ (zjm [0,1,2,6] [(900000,[(900000,0)]),(900001,[(900001,0),(93,0)]),(900002,[(900002,0),(24,0)]),(6,[(6,0)])] ?_ (fun σ => σ 900000 0=(900000,0) /\ σ 93 0=(900001,0)/\(∀ g,σ 900002 g=(900002,g)) /\ σ 24 0=(900002,0) /\ σ 6 0=(6,0)) ?_ ?_)
   ·simp [zhs,zty,zfh,PINB,DEAD,zet]
   ·simp [sgP,zhn,zeh,St.site,look,zww,zrl,z2a]
   ·rintro σ ⟨s1,s2,s3,s4,s5⟩
    simp [hpP,catS,sub,subO,subL,St.get,look,St.site,c3S,hpC,hst,s1,s2,s3,s4,s5,ctrV,outQ,zR3,zwv,ztf,zsg,hisC,mp,rowC]
 | succ m =>
  have hle:((m:Int)+1<=(n:Int)):=by omega
  have o1:=zuc N m
  have o3:=z54 N m
  simp [g.m8,c3S,hpC,zR3,ctrV,outQ,go_sem,hst,hle,hlt]
  refine ⟨by omega,?_⟩
  refine z3i (s:=s) (m:=m+1) (q:=q) (n:=n) hA (by omega) (Weak.toF [0,1,2,6,7,26,27] [900000,900001,900002] [((6,0),6),((24,0),24)] ?_) ?_
  ·simp [go_sem,c2S,hpC,zR3,ctrV,outQ,hz,hst]
   exact za6 A N (m+1)
  ·simp [c2S,hpC,zR3,ctrV,outQ,go_sem,hend,o1,zdm,killAll,St.kill]
   refine ⟨by omega,?_⟩
   refine hnext _ (zjm [0,1,2,6] [(900000,[(900000,0)]),(900001,[(900001,0),(93,0)]),(900002,[(900002,0),(24,0)]),(6,[(6,0)])] ?_ (fun σ => σ 900000 0=(900000,0) /\ σ 93 0=(900001,m+1)/\(∀ g,σ 900002 g=(900002,g)) /\ σ 24 0=(900002,m+1) /\ σ 6 0=(6,0)) ?_ ?_)
   ·simp [zhs,zty,zfh,PINB,DEAD,zet]
   ·simp [sgP,zhn,zeh,St.site,look,zww,zrl,z2a,o3]
   ·rintro σ ⟨s1,s2,s3,s4,s5⟩
    simp [hpP,catS,sub,subO,subL,St.get,look,St.site,c3S,hpC,hst,s1,s2,s3,s4,s5,ctrV,outQ,zR3,zwv,ztf,zsg A N (m+1),hisC,zzi,z4w s3,zt3 (m+1),rowC]
    rw [List.replicate_succ',List.append_assoc]; rfl
theorem zms {A:GAuto} {N:Nat} (hA:CtrOk A N) (s:Int) {m q n:Nat} (hn:n<800) (hm:m<900) (hq:q<N) :
  HSp P F.dm [.ptr 900000 0 0 0,.p (.int .i64 q),.p (.int .i64 n)] (hpC A s N m) (.p (enc (natR (cnA A n q)))) (hpC A s N (max m (n+1))):=by
 refine HSp.of_mr c.dm (by simp) (by simp [hpC,PINB]) (by simp [hpC]) ?_ fun A0 hA0=>MR.of_vm ?_
 ·show (true&&hpOk [900000,900001,900002] (hpC A s N (max m (n+1))))=true
  rw [zmm]; rfl
 simp [g.dm,go_sem,zbr,hpC,ctrV]
 refine yar (s:=s) (q:=q) (n:=n) (m0:=m) hA hn hm (Weak.toF [0,1,2,6] [900000,900001,900002] [((6,0),6)] ?_) ?_
 ·simp [go_sem,c3S,hpC,zR3,ctrV,zcb]
  exact za6 A N m
 obtain ⟨M,hM⟩:∃ M,max m (n+1)=M+1:=⟨max m (n+1) - 1,by omega⟩
 rw [hM]
 have hnM:n<M+1:=by omega
 have o1:=zuc N M
 have o2:=z2l A N hnM
 have r1:(mp (M+1) (rowC N))[n]?=some (rowC N n):=by simp [mp,hnM]
 have hrow:q<(rowG N (cnA A n)).length:=by rw [zd7]; exact hq
 have hnM2:(n:Int)<(M:Int)+1:=by omega
 simp [c3S,hpC,zR3,ctrV,outQ,go_sem,o1,zdm,hnM2,hnM]
 rw [zgf]
 refine ⟨_,r1,?_⟩
 simp [go_sem,rowC,o2,zd7,hq]
 refine zae hrow ?_
 rw [zpc]
 refine ⟨.inl rfl,_,Weak.refl _,_,rfl,?_,?_⟩
 ·simp [go_sem]
 ·simp [zbf,St.site,look]
end Go.Ab
namespace Go.Ab
open Enc (enc)
attribute [local go_sem] zam Opd.slots
noncomputable def wcn (A:GAuto) (s:Int) (n:Nat):Nat:=if s<0 then 0 else cnA A n s.toNat
def upM (s:Int) (m n:Nat):Nat:=if s<0 then m else max m (n+1)
theorem zwk (A:GAuto) (s:Int) (N m m':Nat) (v:PV) (vs:List PV) (k:AV) (hk:k=.ptr 900000 0 0 0):(za5 [900000,900001,900002] (k::vs.map .p)&&hpOk [900000,900001,900002] (hpC A s N m)&&zgd [900000,900001,900002] (.av (.p v))&&hpOk [900000,900001,900002] (hpC A s N m'))=true:=by
 subst hk
 rw [zmm,zmm]
 simp [za5,zb7,zgd]
 rw [zeb,List.all_eq_true]
 intro x hx
 obtain ⟨y,_,rfl⟩:=List.mem_map.1 hx
 rfl
theorem zh8 {f:FuncId} {e:Nat} {A:GAuto} {s:Int} {N m m':Nat} {st:St} {vs:List PV} {v:PV} {K:PCall->AV->St->Prop} (hs:HSp P f (.ptr 900000 0 0 0::vs.map .p) (hpC A s N m) (.p v) (hpC A s N m')) {us:List AV} (hu:us=.ptr 900000 0 0 0::vs.map .p) (hk:zbf st (hpC A s N m) (hpC A s N m))
  (k:K ⟨f,[],.hsp us (hpC A s N m) (.av (.p v)) (hpC A s N m'),none⟩ (.p v) ⟨st.sl,hpC A s N m'++st.hp⟩):zg8 P st e f us K:=by
 subst hu
 refine ze7 hs ?_ hk rfl (zwk A s N m m' v vs _ rfl) k
 simp [zei,List.all_map]
theorem zqv {A:GAuto} {N:Nat} (hA:CtrOk A N) {s:Int} (hs:s<N) {m n:Nat} (hn:n<800) (hm:m<900) :
  HSp P F.fj [.ptr 900000 0 0 0,.p (.int .i64 n)] (hpC A s N m) (.p (enc (natR (wcn A s n)))) (hpC A s N (upM s m n)):=by
 refine HSp.of_mr c.fj (by simp) (by simp [hpC,PINB]) (by simp [hpC]) ?_ fun A0 hA0=>MR.of_vm ?_
 ·show (true&&hpOk [900000,900001,900002] (hpC A s N (upM s m n)))=true
  rw [zmm]; rfl
 simp [g.fj,go_sem,zbr,hpC,ctrV]
 refine ⟨fun h=>?_,fun h=>?_⟩
 ·have e1:wcn A s n=0:=by simp [wcn,h]
  have e2:upM s m n=m:=by simp [upM,h]
  rw [e1,e2]
  refine ⟨.inl rfl,_,Weak.freezeTo (s:=4) (g:=0) (n:=2) [enc (natR 0)] [] rfl (by simp [go_sem,zl0]) (by simp [go_sem]) (by simp),_,rfl,?_,?_⟩
  ·simp [go_sem]
  ·simp [zbf,St.site,look,killAll,St.setObj]
 ·obtain ⟨q,rfl⟩:∃ q:Nat,s=(q:Int):=⟨s.toNat,by omega⟩
  have e1:wcn A (q:Int) n=cnA A n q:=by unfold wcn; rw [if_neg (by omega),Int.toNat_natCast]
  have e2:upM (q:Int) m n=max m (n+1):=by unfold upM; rw [if_neg (by omega)]
  rw [e1,e2]
  refine zh8 (vs:=[.int .i64 q,.int .i64 n]) (zms hA (q:Int) hn hm (by omega)) rfl (by simp [zbf,St.site,look,hpC,ctrV]) ?_
  simp [go_sem,hpC,ctrV]
  refine ⟨.inl rfl,_,Weak.refl _,_,rfl,?_,?_⟩
  ·simp [go_sem]
  ·simp [zbf,St.site,look]
end Go.Ab
namespace Go.Ab
open Enc (enc)
attribute [local go_sem] zam Opd.slots
noncomputable def bN (A:GAuto) (s:Int):Nat->Nat
 | 0=>0
 | k+1=>bN A s k+wcn A s k
def upB (s:Int) (m k:Nat):Nat:=if s<0 then m else max m k
theorem zu5 (s:Int) (m k:Nat):upM s (upB s m k) k=upB s m (k+1):=by
 unfold upM upB
 by_cases h:s<0
 ·simp [h]
 ·simp only [if_neg h]; omega
theorem zyq {A:GAuto} (h:A.arcs.length<=2048) (s:Int) (k:Nat):wcn A s k<=2048^k:=by
 unfold wcn; split
 ·exact Nat.zero_le _
 ·exact zur A.ring A.fin h k _
theorem z68 {A:GAuto} (h:A.arcs.length<=2048) (s:Int):∀ k,k<=2048->bN A s k<=2048^(k+1)
 | 0,_=>by simp [bN]
 | k+1,hk=>by
  have h1:=z68 h s k (by omega)
  have h2:=zyq h s k
  have h3:2048^k<=2048^(k+1):=Nat.pow_le_pow_right (by omega) (by omega)
  have h4:2048^(k+1+1)=2048^(k+1)*2048:=by rw [Nat.pow_succ]
  simp only [bN]
  rw [h4]
  generalize 2048^(k+1)=B at *
  omega
theorem zq1 {s:Int} {m k:Nat} (hm:m<=300) (hk:k<=300):upB s m k<=300:=by unfold upB; split<;>omega
noncomputable def b1S (A:GAuto) (s:Int) (N m n k:Nat):St :=
 ⟨[(0,.ptr 900000 0 0 0),(4,.ptr 4 0 0 0),(5,.ptr 5 0 0 0),(8,.p (.int .i64 n)),(9,.p (.int .i64 k))],hpC A s N (upB s m k)++[(4,[some ⟨3,[zR3]⟩]),(5,[some ⟨3,[.p (enc (natR (bN A s k)))]⟩]),(DEAD,[none])]⟩
theorem zs4 {A:GAuto} {N:Nat} (hA:CtrOk A N) {s:Int} (hs:s<N) {m n:Nat} (hn:n<=300) (hm:m<=300) :
  HSp P F.fh [.ptr 900000 0 0 0,.p (.int .i64 n)] (hpC A s N m) (.p (enc (natR (bN A s n)))) (hpC A s N (upB s m n)):=by
 refine HSp.of_mr c.fh (by simp) (by simp [hpC,PINB]) (by simp [hpC]) ?_ fun A0 hA0=>MR.of_vm ?_
 ·show (true&&hpOk [900000,900001,900002] (hpC A s N (upB s m n)))=true
  rw [zmm]; rfl
 have i1:=hA.al
 simp [g.fh,go_sem,zbr,hpC,ctrV]
 refine zai (S:=fun k:Nat=>b1S A s N m n k) (I:=fun k=>k<=n) (m:=fun k=>n - k) 0
  ((Weak.freezeTo (s:=5) (g:=0) (n:=2) [enc (natR 0)] [] rfl (by simp [go_sem,zl0]) (by simp [go_sem]) (by simp)).trans (Weak.toF [0,4,5,8,9] [900000,900001,900002] [((4,0),4),((5,0),5)] ?_)) (by omega) ?_
 ·have e0:upB s m 0=m:=by unfold upB; split<;>omega
  simp [go_sem,b1S,hpC,zR3,ctrV,zcb,killAll,St.setObj,bN,e0]
  exact za6 A N m
 rintro k hk R hn' hr' hx
 have e1:=i64s k (by omega)
 have hup:=zq1 (s:=s) hm (show k<=300 by omega)
 by_cases hlt:k<n
 ·simp [g.om,b1S,hpC,zR3,ctrV,go_sem,hlt]
  refine zh8 (vs:=[.int .i64 k]) (zqv hA hs (m:=upB s m k) (n:=k) (by omega) (by omega)) rfl (by simp [zbf,St.site,look,hpC,ctrV]) ?_
  simp [go_sem,hpC,ctrV]
  refine zab (zft (natR (bN A s k)) (natR (wcn A s k)) (zgc (z68 i1 s k (by omega)) (by omega)) (zgc (zyq i1 s k) (by omega))) ?_
  rw [zk4]
  simp [go_sem,e1]
  refine hn' (k+1) _ (Weak.toF [0,4,5,8,9] [900000,900001,900002] [((4,0),4),((5,0),5)] ?_) (by omega) (by omega)
  simp [go_sem,b1S,hpC,zR3,ctrV,zcb,bN,zu5]
  exact za6 A N (upB s m (k+1))
 ·have hkn:k=n:=by omega
  subst hkn
  simp [g.om,b1S,hpC,zR3,ctrV,go_sem]
  refine hx _ _ ?_
  simp [go_sem]
  refine ⟨.inl rfl,_,Weak.refl _,_,rfl,?_,?_⟩
  ·simp [go_sem]
  ·simp [zbf,St.site,look]
end Go.Ab
namespace Go.Ab
open Enc (enc)
attribute [local go_sem] zam Opd.slots
noncomputable def lowS (A:GAuto) (q:Nat) (a:Int) (L j:Nat):Nat:=(((zaj A.arcs q).take j).map fun x=>if x.l<a then cnA A L x.t.toNat else 0).sum
def nxtJ (A:GAuto) (q:Nat) (a:Int) (j:Nat):Int:=((zaj A.arcs q).take j).foldl (fun r x=>if x.l=a then x.t else r) (-1)
theorem zej (A:GAuto) (q:Nat) (a:Int) (L:Nat) {j:Nat} (h:j<(zaj A.arcs q).length):lowS A q a L (j+1)=lowS A q a L j+if (zaj A.arcs q)[j].l<a then cnA A L (zaj A.arcs q)[j].t.toNat else 0:=by
 unfold lowS
 rw [List.take_succ_eq_append_getElem h,List.map_append,List.sum_append]; simp
theorem zff (A:GAuto) (q:Nat) (a:Int) {j:Nat} (h:j<(zaj A.arcs q).length):nxtJ A q a (j+1)=if (zaj A.arcs q)[j].l=a then (zaj A.arcs q)[j].t else nxtJ A q a j:=by
 unfold nxtJ
 rw [List.take_succ_eq_append_getElem h,List.foldl_append]; rfl
theorem z1s {A:GAuto} (h:A.arcs.length<=2048) (q:Nat) (a:Int) (L j:Nat):lowS A q a L j<=2048^(L+1):=by
 refine Nat.le_trans (zvc (B:=2048^L) fun x _=>?_) ?_
 ·split
  ·exact zur A.ring A.fin h L _
  ·exact Nat.zero_le _
 rw [Nat.pow_succ,Nat.mul_comm]
 refine Nat.mul_le_mul_left _ ?_
 rw [List.length_take]
 exact Nat.le_trans (Nat.min_le_right _ _) (Nat.le_trans (List.length_filter_le _ _) h)
theorem zvy {A:GAuto} {N:Nat} (hA:CtrOk A N) (q:Nat) (a:Int):∀ j,-1<=nxtJ A q a j/\nxtJ A q a j<N
 | 0=>by simp [nxtJ]; omega
 | j+1=>by
  have ih:=zvy hA q a j
  by_cases h:j<(zaj A.arcs q).length
  ·rw [zff A q a h]
   have:=hA.t _ (List.mem_filter.1 (List.getElem_mem h)).1
   split<;>omega
  ·have:nxtJ A q a (j+1)=nxtJ A q a j:=by unfold nxtJ; rw [List.take_of_length_le (by omega),List.take_of_length_le (by omega)]
   rw [this]; exact ih
noncomputable def rkI (A:GAuto) (w:List Int) (base:Nat) (s:Int):Nat->Nat × Int
 | 0=>(base,s)
 | i+1=>if (rkI A w base s i).2<0 then rkI A w base s i
  else ((rkI A w base s i).1+lowS A (rkI A w base s i).2.toNat (w.getD i 0) (w.length - 1 - i) (zaj A.arcs (rkI A w base s i).2.toNat).length,nxtJ A (rkI A w base s i).2.toNat (w.getD i 0) (zaj A.arcs (rkI A w base s i).2.toNat).length)
theorem zpd (A:GAuto) (w:List Int) (base:Nat) (s:Int) {i:Nat} (h:(rkI A w base s i).2<0):∀ k,rkI A w base s (i+k)=rkI A w base s i
 | 0=>rfl
 | k+1=>by
  have ih:=zpd A w base s h k
  show rkI A w base s (i+k+1)=_
  simp only [rkI]
  rw [ih,if_pos h]
theorem zz6 {A:GAuto} {N:Nat} (hA:CtrOk A N) (w:List Int) (base:Nat) {s:Int} (hs : -1<=s/\s<N):∀ i,-1<=(rkI A w base s i).2/\(rkI A w base s i).2<N
 | 0=>hs
 | i+1=>by
  have ih:=zz6 hA w base hs i
  simp only [rkI]
  split
  ·exact ih
  ·exact zvy hA _ _ _
theorem zz8 {A:GAuto} (h:A.arcs.length<=2048) (w:List Int) {base:Nat} (hb:base<=2048^(w.length+1)) (s:Int):∀ i,i<=w.length->(rkI A w base s i).1<=(i+1)*2048^(w.length+1)
 | 0,_=>by simpa [rkI] using hb
 | i+1,hi=>by
  have ih:=zz8 h w hb s i (by omega)
  simp only [rkI]
  have hl:=z1s h (rkI A w base s i).2.toNat (w.getD i 0) (w.length - 1 - i) (zaj A.arcs (rkI A w base s i).2.toNat).length
  have hp:2048^(w.length - 1 - i+1)<=2048^(w.length+1):=Nat.pow_le_pow_right (by omega) (by omega)
  rw [Nat.add_mul (i+1) 1]
  generalize 2048^(w.length+1)=B at *
  split
  ·exact Nat.le_trans ih (Nat.le_add_right _ _)
  ·simp only; omega
noncomputable def endB (A:GAuto) (q:Int):Bool:=if q<0 then false else decide (A.fin.getD q.toNat A.ring.zero≠A.ring.zero)
noncomputable def r1S (A:GAuto) (s:Int) (N m:Nat) (w:List Int) (i:Nat) (q:Nat) (a:Int) (sum j:Nat):St :=
 ⟨[(0,.ptr 900000 0 0 0),(1,.p (.sl (ens w))),(4,.ptr 4 0 0 0),(6,.ptr 6 0 0 0),(8,.p (.int .i64 i)),(9,.p (.int .i64 a)),(10,.p (.int .i64 (nxtJ A q a j))),(21,.p (.sl (ens w))),(22,.p (.int .i64 w.length)),(23,.p (.int .i64 i)),(36,.p (.sl (ens (zaj A.arcs q)))),(37,.p (.int .i64 (zaj A.arcs q).length)),(38,.p (.int .i64 j))],
  hpC A s N m++[(4,[some ⟨3,[zR3]⟩]),(6,[some ⟨3,[.p (enc (natR (sum+lowS A q a (w.length - 1 - i) j)))]⟩]),(DEAD,[none])]⟩
theorem z8w {A:GAuto} {N:Nat} (hA:CtrOk A N) {s:Int} {m i q:Nat} {w:List Int} {a:Int} {sum:Nat} (hi:i<w.length) (hw:w.length<=256) (hm:w.length<=m) (hm2:m<=300) (hsum:sum<=(i+1)*2048^(w.length+1)) {Q:Exit->St->Prop} {ks:List Kt} {st:St} (hw0:Weak st (r1S A s N m w i q a sum 0))
  (hx:zem P 77 Q (zbm 2 ks) 2 (r1S A s N m w i q a sum (zaj A.arcs q).length)):vL P 77 Q g.oq ks st:=by
 have i1:=hA.al
 have i2:(zaj A.arcs q).length<=2048:=Nat.le_trans (List.length_filter_le _ _) i1
 refine zai (S:=fun j:Nat=>r1S A s N m w i q a sum j) (I:=fun j=>j<=(zaj A.arcs q).length) (m:=fun j=>(zaj A.arcs q).length - j) 0 hw0 (by omega) ?_
 rintro j hj R hn hr hx'
 have e1:=i64s j (by omega)
 have e2:IntKind.i64.wrap ((w.length:Int) - 1)=((w.length - 1:Nat):Int):=by rw [i64w (by omega) (by omega)]; omega
 have e3:IntKind.i64.wrap (((w.length - 1:Nat):Int) - (i:Int))=((w.length - 1 - i:Nat):Int):=by rw [i64w (by omega) (by omega)]; omega
 simp [g.oq,r1S,hpC,zR3,ctrV,go_sem]
 refine ⟨fun hlt=>?_,fun hge=>?_⟩
 ·refine zae hlt ?_
  have hmem:(zaj A.arcs q)[j]∈A.arcs:=(List.mem_filter.1 (List.getElem_mem hlt)).1
  obtain ⟨t0,t1⟩:=hA.t _ hmem
  obtain ⟨tt,htt⟩:∃ tt:Nat,(zaj A.arcs q)[j].t=(tt:Int):=⟨(zaj A.arcs q)[j].t.toNat,by omega⟩
  have hls:=zej A q a (w.length - 1 - i) hlt
  have hnx:=zff A q a hlt
  rw [htt,Int.toNat_natCast] at hls
  rw [htt] at hnx
  have hend:∀ (s0:St),Weak s0 (r1S A s N m w i q a sum (j+1))->R .normal s0:=fun s0 h=>hn (j+1) s0 h (by omega) (by omega)
  have hlow:=z1s i1 q a (w.length - 1 - i) j
  have b2:cnA A (w.length - 1 - i) tt<=2048^(w.length - 1 - i):=zur A.ring A.fin i1 _ tt
  have b1:sum+lowS A q a (w.length - 1 - i) j<=2048^(w.length+2):=by
   have hp:2048^(w.length - 1 - i+1)<=2048^(w.length+1):=Nat.pow_le_pow_right (by omega) (by omega)
   have hpp:2048^(w.length+2)=2048^(w.length+1)*2048:=by rw [Nat.pow_succ]
   have hmul:(i+1)*2048^(w.length+1)<=2000*2048^(w.length+1):=Nat.mul_le_mul_right _ (by omega)
   rw [hpp]
   generalize 2048^(w.length+1)=B at *
   omega
  refine ⟨fun hla=>?_,fun hla=>?_⟩
  ·have hm3:max m (w.length - 1 - i+1)=m:=by omega
   rw [if_pos hla] at hls
   have hs0:=zms hA s (m:=m) (q:=tt) (n:=w.length - 1 - i) (by omega) (by omega) (by omega)
   rw [hm3] at hs0
   simp [e2,e3,htt]
   refine zh8 (vs:=[.int .i64 tt,.int .i64 (w.length - 1 - i:Nat)]) hs0 (by simp) (by simp [zbf,St.site,look,hpC,ctrV]) ?_
   simp [go_sem,hpC,ctrV]
   refine zab (zft (natR (sum+lowS A q a (w.length - 1 - i) j)) (natR (cnA A (w.length - 1 - i) tt)) (zgc b1 (by omega)) (zgc b2 (by omega))) ?_
   rw [zk4]
   have hne:¬ (zaj A.arcs q)[j].l=a:=by omega
   rw [if_neg hne] at hnx
   simp [go_sem,e1,hne]
   refine hend _ (Weak.toF [0,1,4,6,8,9,10,21,22,23,36,37,38] [900000,900001,900002] [((4,0),4),((6,0),6)] ?_)
   simp [go_sem,r1S,hpC,zR3,ctrV,zcb,hls,hnx,Nat.add_assoc]
   exact za6 A N m
  ·rw [if_neg (by omega),Nat.add_zero] at hls
   simp [go_sem,e1,htt]
   refine ⟨fun hl=>?_,fun hl=>?_⟩
   ·rw [if_pos hl] at hnx
    refine hend _ (Weak.toF [0,1,4,6,8,9,10,21,22,23,36,37,38] [900000,900001,900002] [((4,0),4),((6,0),6)] ?_)
    simp [go_sem,r1S,hpC,zR3,ctrV,zcb,hls,hnx]
    exact za6 A N m
   ·rw [if_neg hl] at hnx
    refine hend _ (Weak.toF [0,1,4,6,8,9,10,21,22,23,36,37,38] [900000,900001,900002] [((4,0),4),((6,0),6)] ?_)
    simp [go_sem,r1S,hpC,zR3,ctrV,zcb,hls,hnx]
    exact za6 A N m
 ·have:j=(zaj A.arcs q).length:=by omega
  subst this
  exact hx' _ _ (by simpa [r1S,hpC,zR3,ctrV,go_sem] using hx)
theorem zla {f:FuncId} {e:Nat} {A:GAuto} {s:Int} {N m m':Nat} {st:St} {vs:List PV} {v:AV} {K:PCall->AV->St->Prop} (hs:HSp P f (.ptr 900000 0 0 0::vs.map .p) (hpC A s N m) v (hpC A s N m')) {us:List AV} (hu:us=.ptr 900000 0 0 0::vs.map .p) (hv:zb7 [900000,900001,900002] v=true) (hk:zbf st (hpC A s N m) (hpC A s N m))
  (k:K ⟨f,[],.hsp us (hpC A s N m) (.av v) (hpC A s N m'),none⟩ v ⟨st.sl,hpC A s N m'++st.hp⟩):zg8 P st e f us K:=by
 subst hu
 refine ze7 hs ?_ hk rfl ?_ k
 ·simp [zei,List.all_map]
 have h:=zwk A s N m m' (.bool true) vs _ rfl
 simp only [Bool.and_eq_true] at h ⊢
 exact ⟨⟨⟨h.1.1.1,h.1.1.2⟩,hv⟩,h.2⟩
noncomputable def r2S (A:GAuto) (s:Int) (N m:Nat) (w:List Int) (b i:Nat):St :=
 ⟨[(0,.ptr 900000 0 0 0),(1,.p (.sl (ens w))),(4,.ptr 4 0 0 0),(6,.ptr 6 0 0 0),(7,.p (.int .i64 (rkI A w b s i).2)),(21,.p (.sl (ens w))),(22,.p (.int .i64 w.length)),(23,.p (.int .i64 i))],
  hpC A s N m++[(4,[some ⟨3,[zR3]⟩]),(6,[some ⟨3,[.p (enc (natR (rkI A w b s i).1))]⟩]),(DEAD,[none])]⟩
theorem z47 {A:GAuto} {N:Nat} (hA:CtrOk A N) {s:Int} (hs : -1<=s/\s<N) {w:List Int} {m:Nat} (hw:w.length<=256) (hm:m<=300) :
  HSp P F.jg [.ptr 900000 0 0 0,.p (.sl (ens w))] (hpC A s N m) (.tup [.p (enc (natR (rkI A w (bN A s w.length) s w.length).1)),.p (.bool (endB A (rkI A w (bN A s w.length) s w.length).2))]) (hpC A s N (upB s m w.length)):=by
 refine HSp.of_mr c.jg (by simp) (by simp [hpC,PINB]) (by simp [hpC]) ?_ fun A0 hA0=>MR.of_vm ?_
 ·show (true&&hpOk [900000,900001,900002] (hpC A s N (upB s m w.length)))=true
  rw [zmm]; rfl
 have i1:=hA.al
 have i3:=hA.N1
 have hup:=zq1 (s:=s) hm (show w.length<=300 by omega)
 have hbn:=z68 i1 s w.length (by omega)
 simp [g.jg,go_sem,zbr]
 refine zh8 (vs:=[.int .i64 w.length]) (zs4 hA hs.2 (n:=w.length) (by omega) hm) rfl (by simp [zbf,St.site,look,hpC]) ?_
 generalize hb:bN A s w.length=b at *
 generalize hM:upB s m w.length=M at *
 simp [go_sem,hpC,ctrV]
 refine zai (S:=fun i:Nat=>r2S A s N M w b i) (I:=fun i=>i<=w.length) (m:=fun i=>w.length - i) 0
  (Weak.toF [0,1,4,6,7,21,22,23] [900000,900001,900002] [((4,0),4),((6,0),6)] ?_) (by omega) ?_
 ·simp [go_sem,r2S,hpC,zR3,ctrV,zcb,rkI]
  exact za6 A N M
 rintro i hi R hn' hr' hx
 have e1:=i64s i (by omega)
 have hrng:=zz6 hA w b hs i
 have hsum:=zz8 i1 w hbn s i hi
 by_cases hlt:i<w.length
 ·have hstay:=zpd A w b s (i:=i)
  have hsucc:rkI A w b s (i+1)=if (rkI A w b s i).2<0 then rkI A w b s i
   else ((rkI A w b s i).1+lowS A (rkI A w b s i).2.toNat (w.getD i 0) (w.length - 1 - i) (zaj A.arcs (rkI A w b s i).2.toNat).length,nxtJ A (rkI A w b s i).2.toNat (w.getD i 0) (zaj A.arcs (rkI A w b s i).2.toNat).length):=rfl
  have hs0:=zpd A w b s (i:=0)
  simp only [Nat.zero_add] at hs0
  have hs1:s<0->rkI A w b s i=(b,s):=fun h=>hs0 h i
  simp [g.ot,r2S,hpC,zR3,ctrV,go_sem,hlt]
  generalize hK:rkI A w b s i=K at *
  obtain ⟨sum,q⟩:=K
  simp only at hrng hsum hstay hsucc
  refine zae hlt ?_
  simp [go_sem]
  refine ⟨fun hq=>?_,fun hq=>?_⟩
  ·have hfin:=hstay hq (w.length - i)
   rw [show i+(w.length - i)=w.length by omega] at hfin
   have he:endB A q=false:=by unfold endB; rw [if_pos hq]
   refine hr' _ ?_
   rw [hfin,he]
   refine ⟨.inl rfl,_,Weak.refl _,_,rfl,?_,?_⟩
   ·simp [go_sem]
   ·simp [zbf,St.site,look]
  ·have hq0:¬ q<0:=by omega
   rw [if_neg hq0] at hsucc
   obtain ⟨qn,rfl⟩:∃ qn:Nat,q=(qn:Int):=⟨q.toNat,by omega⟩
   rw [Int.toNat_natCast] at hsucc
   have hsm:w.length<=M:=by
    rw [<- hM]; unfold upB
    by_cases h:s<0
    ·have:=hs1 h; injection this with h1 h2; omega
    ·rw [if_neg h]; omega
   refine zab (zoy A N qn hA.inN hA.fs (by omega) (by omega) (by omega)) ?_
   simp [go_sem]
   have hget:w.getD i 0=w[i]:=by rw [List.getD_eq_getElem?_getD,List.getElem?_eq_getElem hlt]; rfl
   rw [hget] at hsucc
   refine z8w (s:=s) (m:=M) (i:=i) (q:=qn) (w:=w) (a:=w[i]) (sum:=sum) hA hlt hw hsm hup hsum (Weak.toF [0,1,4,6,8,9,10,21,22,23,36,37,38] [900000,900001,900002] [((4,0),4),((6,0),6)] ?_) ?_
   ·simp [go_sem,r1S,hpC,zR3,ctrV,zcb,lowS,nxtJ]
    exact za6 A N M
   ·simp [r1S,hpC,zR3,ctrV,go_sem,e1]
    refine hn' (i+1) _ (Weak.toF [0,1,4,6,7,21,22,23] [900000,900001,900002] [((4,0),4),((6,0),6)] ?_) (by omega) (by omega)
    simp [go_sem,r2S,hpC,zR3,ctrV,zcb,hsucc]
    exact za6 A N M
 ·have hkn:i=w.length:=by omega
  subst hkn
  simp [g.ot,r2S,hpC,zR3,ctrV,go_sem]
  refine hx _ _ ?_
  generalize hK:rkI A w b s w.length=K at *
  obtain ⟨sum,q⟩:=K
  simp only at hrng hsum
  by_cases hq:q<0
  ·have he:endB A q=false:=by unfold endB; rw [if_pos hq]
   have hq2:¬ 0<=q:=by omega
   simp [go_sem,hq2,he]
   refine ⟨.inl rfl,_,Weak.refl _,_,rfl,?_,?_⟩
   ·simp [go_sem]
   ·simp [zbf,St.site,look]
  ·obtain ⟨qn,rfl⟩:∃ qn:Nat,q=(qn:Int):=⟨q.toNat,by omega⟩
   have hqf:qn<(zax A).a.fin.length:=by show qn<A.fin.length; rw [hA.fl]; omega
   have he:endB A (qn:Int)=decide (¬ (zax A).a.fin[qn]=(zax A).a.ring.zero):=by
    unfold endB; rw [if_neg hq,Int.toNat_natCast]
    have:A.fin.getD qn A.ring.zero=(zax A).a.fin[qn]:=by
     show A.fin.getD qn A.ring.zero=A.fin[qn]'(by rw [hA.fl]; omega)
     rw [List.getD_eq_getElem?_getD,List.getElem?_eq_getElem (by rw [hA.fl]; omega)]; rfl
    rw [this]; rfl
   simp [go_sem]
   refine zab (z2p (zax A) qn hqf hA.fsm) ?_
   rw [he]
   simp [go_sem]
   refine ⟨.inl rfl,_,Weak.refl _,_,rfl,?_,?_⟩
   ·simp [go_sem]
   ·simp [zbf,St.site,look]
end Go.Ab
namespace Go.Ab
open Go.Proofs
def g.s9:GC:=.seq (.reg [⟨some 2,.box 7 (.t 0),none⟩,⟨some 4,.alloc 3 (.agg [.p (.bool false),.nil,.nil]),none⟩,⟨some 5,.mv (.c (.p (.int .i64 0))),none⟩] [[0],[],[5]]) (.seq (.reg [⟨some 9,.load 7 true (.t 2),none⟩,⟨some 10,.call F.bn [.t 9],none⟩,⟨some 8,.mv (.t 10),none⟩,⟨some 11,.extract (.t 8) 0,none⟩,⟨some 12,.extract (.t 8) 1,none⟩,⟨some 6,.mv (.t 11),none⟩,⟨some 7,.mv (.t 12),none⟩] [[2],[9],[10],[],[8],[11],[12]]) (.seq (.blk 0 (.seq (.reg [⟨some 14,.mv (.t 7),none⟩,⟨some 15,.ibin .neq (.t 14) (.c (.p (.int .i64 0))),none⟩,⟨some 13,.mv (.t 15),none⟩] [[],[14],[15]]) (.cond (.t 13) [13] (.seq (.reg [⟨some 16,.build [.p (.bool false),.nil,.nil] [],none⟩,⟨some 17,.mv (.t 7),none⟩,⟨none,.store 3 (.t 4) (.t 16),none⟩,⟨some 5,.mv (.t 17),none⟩] [[1,6],[7],[16],[17]]) (.ret)) (.seq (.reg [⟨some 19,.mv (.t 1),none⟩,⟨some 20,.ibin .lss (.t 19) (.c (.p (.int .i64 0))),none⟩,⟨some 21,.mv (.t 20),none⟩,⟨some 22,.mv (.t 1),some (21,false)⟩,⟨some 23,.ibin .gtr (.t 22) (.c (.p (.int .i64 256))),some (21,false)⟩,⟨some 24,.pick (.t 21) (.c (.p (.bool true))) (.t 23),none⟩,⟨some 18,.mv (.t 24),none⟩] [[7],[19],[20],[],[22],[21,23],[24]]) (.cond (.t 18) [18] (.seq (.reg [⟨some 25,.build [.p (.bool false),.nil,.nil] [],none⟩,⟨none,.store 3 (.t 4) (.t 25),none⟩,⟨some 5,.mv (.c (.p (.int .i64 1))),none⟩] [[1,6],[25]]) (.ret)) (.nop)))))) (.seq (.reg [⟨some 26,.mv (.t 6),none⟩,⟨some 27,.mv (.t 1),none⟩,⟨some 28,.ibin .add (.t 27) (.c (.p (.int .i64 1))),none⟩,⟨some 29,.call F.fh [.t 26,.t 28],none⟩,⟨none,.store 3 (.t 4) (.t 29),none⟩,⟨some 5,.mv (.c (.p (.int .i64 0))),none⟩] [[6],[1],[27],[26,28],[29]]) (.ret))))
theorem c.s9:zad P F.mm=some ⟨30,2,g.s9.er,[(4,some 3),(5,none)]⟩:=by kernel_rfl
def g.ta:GC:=.seq (.reg [⟨some 2,.box 7 (.t 0),none⟩,⟨some 3,.box 3 (.t 1),none⟩,⟨some 4,.mv (.c .nil),none⟩,⟨some 5,.mv (.c (.p (.bool false))),none⟩,⟨some 6,.mv (.c (.p (.int .i64 0))),none⟩] [[0],[1],[4],[5],[6]]) (.seq (.reg [⟨some 12,.load 7 true (.t 2),none⟩,⟨some 13,.call F.bn [.t 12],none⟩,⟨some 11,.mv (.t 13),none⟩,⟨some 14,.extract (.t 11) 0,none⟩,⟨some 15,.extract (.t 11) 1,none⟩,⟨some 7,.mv (.t 14),none⟩,⟨some 8,.mv (.t 15),none⟩] [[2],[12],[13],[],[11],[14],[15]]) (.seq (.blk 0 (.seq (.reg [⟨some 17,.mv (.t 8),none⟩,⟨some 18,.ibin .neq (.t 17) (.c (.p (.int .i64 0))),none⟩,⟨some 16,.mv (.t 18),none⟩] [[],[17],[18]]) (.cond (.t 16) [16] (.seq (.reg [⟨some 19,.mv (.t 8),none⟩,⟨some 4,.mv (.c .nil),none⟩,⟨some 5,.mv (.c (.p (.bool false))),none⟩,⟨some 6,.mv (.t 19),none⟩] [[3,7,8],[],[],[19]]) (.ret)) (.seq (.reg [⟨some 21,.load 3 true (.t 3),none⟩,⟨some 22,.call F.bp [.t 21],none⟩,⟨some 23,.not (.t 22),none⟩,⟨some 24,.mv (.t 23),none⟩,⟨some 25,.faddr 2 (.t 3),some (24,false)⟩,⟨some 26,.load 1 false (.t 25),some (24,false)⟩,⟨some 27,.len (.t 26),some (24,false)⟩,⟨some 28,.ibin .gtr (.t 27) (.c (.p (.int .i64 0))),some (24,false)⟩,⟨some 29,.pick (.t 24) (.c (.p (.bool true))) (.t 28),none⟩,⟨some 30,.mv (.t 29),none⟩,⟨some 31,.load 3 true (.t 3),some (30,false)⟩,⟨some 32,.call F.bb [.t 31],some (30,false)⟩,⟨some 33,.ibin .lss (.t 32) (.c (.p (.int .i64 0))),some (30,false)⟩,⟨some 34,.pick (.t 30) (.c (.p (.bool true))) (.t 33),none⟩,⟨some 20,.mv (.t 34),none⟩] [[8],[21],[22],[23],[],[25],[26],[27],[24,28],[29],[],[31],[32],[30,33],[34]]) (.cond (.t 20) [20] (.seq (.reg [⟨some 4,.mv (.c .nil),none⟩,⟨some 5,.mv (.c (.p (.bool false))),none⟩,⟨some 6,.mv (.c (.p (.int .i64 1))),none⟩] [[3,7]]) (.ret)) (.nop)))))) (.seq (.reg [⟨some 36,.mv (.t 7),none⟩,⟨some 37,.load 3 true (.t 3),none⟩,⟨some 38,.call F.je [.t 36,.t 37],none⟩,⟨some 35,.mv (.t 38),none⟩,⟨some 39,.extract (.t 35) 0,none⟩,⟨some 40,.extract (.t 35) 1,none⟩,⟨some 9,.mv (.t 39),none⟩,⟨some 10,.mv (.t 40),none⟩] [[7],[3],[36,37],[38],[],[35],[39],[40]]) (.seq (.reg [⟨some 41,.mv (.t 9),none⟩,⟨some 42,.mv (.t 10),none⟩,⟨some 4,.mv (.t 41),none⟩,⟨some 5,.mv (.t 42),none⟩,⟨some 6,.mv (.c (.p (.int .i64 0))),none⟩] [[9],[10],[41],[42]]) (.ret)))))
theorem c.ta:zad P F.ml=some ⟨43,2,g.ta.er,[(4,none),(5,none),(6,none)]⟩:=by kernel_rfl
def g.tb:GC:=.seq (.reg [⟨some 2,.box 7 (.t 0),none⟩,⟨some 4,.mv (.c .nil),none⟩,⟨some 5,.mv (.c (.p (.bool false))),none⟩,⟨some 6,.mv (.c (.p (.int .i64 0))),none⟩] [[0],[4],[5],[6]]) (.seq (.reg [⟨some 16,.load 7 true (.t 2),none⟩,⟨some 17,.call F.bn [.t 16],none⟩,⟨some 15,.mv (.t 17),none⟩,⟨some 18,.extract (.t 15) 0,none⟩,⟨some 19,.extract (.t 15) 1,none⟩,⟨some 7,.mv (.t 18),none⟩,⟨some 8,.mv (.t 19),none⟩] [[],[16],[17],[],[15],[18],[19]]) (.seq (.blk 0 (.seq (.reg [⟨some 21,.mv (.t 8),none⟩,⟨some 22,.ibin .neq (.t 21) (.c (.p (.int .i64 0))),none⟩,⟨some 20,.mv (.t 22),none⟩] [[],[21],[22]]) (.cond (.t 20) [20] (.seq (.reg [⟨some 23,.mv (.t 8),none⟩,⟨some 4,.mv (.c .nil),none⟩,⟨some 5,.mv (.c (.p (.bool false))),none⟩,⟨some 6,.mv (.t 23),none⟩] [[1,2,7,8],[],[],[23]]) (.ret)) (.seq (.reg [⟨some 25,.mv (.t 1),none⟩,⟨some 26,.faddr 2 (.t 2),none⟩,⟨some 27,.load 1 false (.t 26),none⟩,⟨some 28,.call F.fi [.t 25,.t 27],none⟩,⟨some 29,.not (.t 28),none⟩,⟨some 24,.mv (.t 29),none⟩] [[8],[2],[26],[25,27],[28],[29]]) (.cond (.t 24) [24] (.seq (.reg [⟨some 4,.mv (.c .nil),none⟩,⟨some 5,.mv (.c (.p (.bool false))),none⟩,⟨some 6,.mv (.c (.p (.int .i64 1))),none⟩] [[1,7]]) (.ret)) (.nop)))))) (.seq (.reg [⟨some 31,.mv (.t 7),none⟩,⟨some 32,.mv (.t 1),none⟩,⟨some 33,.call F.jg [.t 31,.t 32],none⟩,⟨some 30,.mv (.t 33),none⟩,⟨some 34,.extract (.t 30) 0,none⟩,⟨some 35,.extract (.t 30) 1,none⟩,⟨some 9,.alloc 3 (.agg [.p (.bool false),.nil,.nil]),none⟩,⟨none,.store 3 (.t 9) (.t 34),none⟩,⟨some 10,.mv (.t 35),none⟩] [[],[1],[31,32],[33],[],[30],[],[34],[35]]) (.seq (.seq (.reg [⟨some 36,.mv (.t 10),none⟩] [[10]]) (.cond (.t 36) [36] (.seq (.reg [⟨some 38,.call F.bc [.c (.p (.int .i64 1)),.c (.p (.int .i64 1))],none⟩,⟨some 37,.mv (.t 38),none⟩,⟨some 39,.extract (.t 37) 0,none⟩,⟨some 40,.extract (.t 37) 1,none⟩,⟨some 11,.alloc 3 (.agg [.p (.bool false),.nil,.nil]),none⟩,⟨none,.store 3 (.t 11) (.t 39),none⟩,⟨some 12,.mv (.t 40),none⟩] [[],[38],[],[37],[],[39],[12,40]]) (.reg [⟨some 41,.load 3 true (.t 9),none⟩,⟨some 42,.load 3 true (.t 11),none⟩,⟨some 43,.call F.au [.t 41,.t 42],none⟩,⟨none,.store 3 (.t 9) (.t 43),none⟩] [[],[11],[41,42],[43]])) (.nop))) (.seq (.reg [⟨some 45,.mv (.t 7),none⟩,⟨some 46,.load 3 true (.t 9),none⟩,⟨some 47,.call F.je [.t 45,.t 46],none⟩,⟨some 44,.mv (.t 47),none⟩,⟨some 48,.extract (.t 44) 0,none⟩,⟨some 49,.extract (.t 44) 1,none⟩,⟨some 13,.mv (.t 48),none⟩,⟨some 14,.mv (.t 49),none⟩] [[7],[9],[45,46],[47],[],[44],[48],[49]]) (.seq (.reg [⟨some 50,.mv (.t 13),none⟩,⟨some 51,.call F.ah [.t 50],none⟩,⟨some 52,.mv (.t 14),none⟩,⟨some 4,.mv (.t 51),none⟩,⟨some 5,.mv (.t 52),none⟩,⟨some 6,.mv (.c (.p (.int .i64 0))),none⟩] [[13],[50],[14],[51],[52]]) (.ret)))))))
theorem c.tb:zad P F.mn=some ⟨53,2,g.tb.er,[(4,none),(5,none),(6,none)]⟩:=by kernel_rfl
def g.tc:GC:=.seq (.reg [⟨some 3,.box 3 (.t 1),none⟩,⟨some 4,.mv (.c .nil),none⟩,⟨some 5,.mv (.c (.p (.bool false))),none⟩] [[1],[4],[5]]) (.seq (.seq (.reg [⟨some 13,.mv (.c (.p (.int .i64 0))),none⟩] []) (.blk 0 (.loop g.ol))) (.seq (.reg [⟨some 4,.mv (.c .nil),none⟩,⟨some 5,.mv (.c (.p (.bool false))),none⟩] [[0,3,13]]) (.ret)))
theorem c.tc:zad P F.je=some ⟨71,2,g.tc.er,[(4,none),(5,none)]⟩:=by kernel_rfl
def g.td:GC:=.seq (.reg [⟨some 0,.mv (.c (.p (.bool false))),none⟩] [[0]]) (.seq (.reg [⟨some 7,.build [.p (.int .i64 0),.nil] [(0,1,.c (.p (.int .i64 2)))],none⟩,⟨some 8,.build [.p (.bool false),.nil,.nil,.p (.int .i64 0),.p (.bool false),.p (.int .u64 0),.nil,.nil] [],none⟩,⟨some 9,.bslice 8 (.agg [.p (.bool false),.nil,.nil,.p (.int .i64 0),.p (.bool false),.p (.int .u64 0),.nil,.nil]) 1 [(0,.t 8)],none⟩,⟨some 10,.build [.p (.bool false),.nil,.nil,.p (.int .i64 0),.p (.bool false),.p (.int .u64 0),.nil,.nil] [],none⟩,⟨some 11,.bslice 8 (.agg [.p (.bool false),.nil,.nil,.p (.int .i64 0),.p (.bool false),.p (.int .u64 0),.nil,.nil]) 1 [(0,.t 10)],none⟩,⟨some 12,.build [.p (.int .i64 0),.p (.int .i64 0),.p (.int .i64 0),.p (.bool false),.nil,.nil,.p (.int .i64 0),.p (.bool false),.p (.int .u64 0),.nil,.nil] [(1,1,.c (.p (.int .i64 1)))],none⟩,⟨some 13,.build [.p (.int .i64 0),.p (.int .i64 0),.p (.int .i64 0),.p (.bool false),.nil,.nil,.p (.int .i64 0),.p (.bool false),.p (.int .u64 0),.nil,.nil] [(1,1,.c (.p (.int .i64 2)))],none⟩,⟨some 14,.bslice 11 (.agg [.p (.int .i64 0),.p (.int .i64 0),.p (.int .i64 0),.p (.bool false),.nil,.nil,.p (.int .i64 0),.p (.bool false),.p (.int .u64 0),.nil,.nil]) 2 [(0,.t 12),(1,.t 13)],none⟩,⟨some 15,.build [.p (.int .i64 0),.nil,.p (.int .i64 0),.p (.int .i64 0),.nil,.nil,.nil] [(0,2,.t 7),(2,1,.c (.p (.int .i64 2))),(3,1,.c (.p (.int .i64 1))),(4,1,.t 9),(5,1,.t 11),(6,1,.t 14)],none⟩,⟨some 1,.alloc 7 (.agg [.p (.int .i64 0),.nil,.p (.int .i64 0),.p (.int .i64 0),.nil,.nil,.nil]),none⟩,⟨none,.store 7 (.t 1) (.t 15),none⟩] [[],[],[8],[],[10],[],[],[12,13],[7,9,11,14],[],[15]]) (.seq (.reg [⟨some 17,.load 7 true (.t 1),none⟩,⟨some 18,.call F.mm [.t 17,.c (.p (.int .i64 3))],none⟩,⟨some 16,.mv (.t 18),none⟩,⟨some 19,.extract (.t 16) 0,none⟩,⟨some 20,.extract (.t 16) 1,none⟩,⟨some 2,.alloc 3 (.agg [.p (.bool false),.nil,.nil]),none⟩,⟨none,.store 3 (.t 2) (.t 19),none⟩,⟨some 3,.mv (.t 20),none⟩] [[],[17],[18],[],[16],[],[19],[20]]) (.seq (.regD [⟨some 22,.load 7 true (.t 1),none⟩,⟨some 23,.call F.ff [.c (.p (.int .i64 4))],none⟩,⟨some 24,.call F.ml [.t 22,.t 23],none⟩,⟨some 21,.mv (.t 24),none⟩,⟨some 25,.extract (.t 21) 0,none⟩,⟨some 26,.extract (.t 21) 1,none⟩,⟨some 27,.extract (.t 21) 2,none⟩,⟨some 4,.mv (.t 25),none⟩,⟨some 5,.mv (.t 26),none⟩,⟨some 6,.mv (.t 27),none⟩] [[],[],[0,1],[2,0,1],[3,2,0,1],[3,2,0,1],[3,2,0,1],[4,3,2,0,1],[5,7,4,3,2,0,1],[6,8,5,7,4,3,2,0,1]] [[1],[],[22,23],[24],[],[],[21],[25],[26],[27]]) (.seq (.regD [⟨some 28,.mv (.t 3),none⟩,⟨some 29,.ibin .eql (.t 28) (.c (.p (.int .i64 0))),none⟩,⟨some 30,.mv (.t 29),none⟩,⟨some 31,.mv (.t 6),some (30,true)⟩,⟨some 32,.ibin .eql (.t 31) (.c (.p (.int .i64 0))),some (30,true)⟩,⟨some 33,.pick (.t 30) (.t 32) (.c (.p (.bool false))),none⟩,⟨some 34,.mv (.t 33),none⟩,⟨some 35,.mv (.t 5),some (34,true)⟩,⟨some 36,.pick (.t 34) (.t 35) (.c (.p (.bool false))),none⟩,⟨some 37,.mv (.t 36),none⟩,⟨some 38,.load 3 true (.t 2),some (37,true)⟩,⟨some 39,.call F.ff [.c (.p (.int .i64 15))],some (37,true)⟩,⟨some 40,.call F.c9 [.t 38,.t 39],some (37,true)⟩,⟨some 41,.ibin .eql (.t 40) (.c (.p (.int .i64 0))),some (37,true)⟩,⟨some 42,.pick (.t 37) (.t 41) (.c (.p (.bool false))),none⟩,⟨some 43,.mv (.t 42),none⟩,⟨some 44,.mv (.t 4),some (43,true)⟩,⟨some 45,.bslice 1 (.p (.int .i64 0)) 2 [(0,.c (.p (.int .i64 1))),(1,.c (.p (.int .i64 2)))],some (43,true)⟩,⟨some 46,.call F.da [.t 44,.t 45],some (43,true)⟩,⟨some 47,.pick (.t 43) (.t 46) (.c (.p (.bool false))),none⟩,⟨some 0,.mv (.t 47),none⟩] [[],[0],[1,0],[2,1,0],[3,2,1,0],[4,3,2,1,0],[5,4,3,2,1,0],[6,5,4,3,2,1,0],[7,6,5,4,3,2,1,0],[8,7,6,5,4,3,2,1,0],[9,8,7,6,5,4,3,2,1,0],[9,8,7,6,5,4,3,2,1,0],[10,11,9,8,7,6,5,4,3,2,1,0],[12,10,11,9,8,7,6,5,4,3,2,1,0],[13,12,10,11,9,8,7,6,5,4,3,2,1,0],[14,13,12,10,11,9,8,7,6,5,4,3,2,1,0],[15,14,13,12,10,11,9,8,7,6,5,4,3,2,1,0],[15,14,13,12,10,11,9,8,7,6,5,4,3,2,1,0],[16,17,15,14,13,12,10,11,9,8,7,6,5,4,3,2,1,0],[18,16,17,15,14,13,12,10,11,9,8,7,6,5,4,3,2,1,0],[19,18,16,17,15,14,13,12,10,11,9,8,7,6,5,4,3,2,1,0]] [[3],[28],[29],[6],[31],[30,32],[33],[5],[34,35],[36],[2],[],[38,39],[40],[37,41],[42],[4],[],[44,45],[43,46],[47]]) (.ret)))))
theorem c.td:zad P F.ja=some ⟨48,0,g.td.er,[(0,none)]⟩:=by kernel_rfl
end Go.Ab
