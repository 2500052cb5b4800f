/-
Proofs for the law ProjectIdentityWeighs, part 36. Conditions: none.
-/
import Derived.Test.YtalcegbealdigaaGreatDoorBP33
import Derived.Test.YtalcegbealdigaaGreatDoorBP11
import Derived.Test.YtalcegbealdigaaGreatDoorBP23
import Derived.Test.YtalcegbealdigaaGreatDoorBP29
import Derived.Test.YtalcegbealdigaaGreatDoorBP34
import Derived.Test.YtalcegbealdigaaGreatDoorBP35
import Derived.Test.YtalcegbealdigaaGreatDoorBP32
import Derived.Test.YtalcegbealdigaaGreatDoorBP25
import Derived.Test.YtalcegbealdigaaGreatDoorBP28
import Derived.Test.YtalcegbealdigaaGreatDoorBP30
set_option maxRecDepth 100000
set_option maxHeartbeats 4000000
set_option linter.all false
namespace Go.Ab
open Enc (enc)
theorem ye4:z64 P F.ch 6:=sortK0
theorem yfg (m n:GMono):Sp P F.bp [enc m,enc n] (.pure (.int .i64 (n.e.cmp m.e))):=by
 refine Sp.vz c.bp fun _=>?_
 simp [g.bp,go_sem]
 refine zaa (zsf m.e n.e) rfl ?_
 simp [go_sem]
theorem z5w:SpM P F.nm [.sl [],.int .i64 0,.int .i64 0,.fn F.bp []] 0 6 [] (.pure (.tup [])):=by
 refine SpM.of_vm c.nm (by simp) rfl rfl ?_
 simp [g.nm,go_sem]
 refine zgn fun R hn hr hx=>?_
 simp [g.tu,g.tv,go_sem]
 refine hx _ _ ?_
 simp [go_sem]
theorem z5b (k:Int):SpM P F.jk [.sl [],.int .i64 0,.int .i64 0,.int .i64 k,.fn F.bp []] 0 6 [] (.pure (.tup [])):=by
 refine SpM.of_vm c.jk (by simp) rfl rfl ?_
 simp [g.jk,go_sem]
 refine zgn fun R hn hr hx=>?_
 simp [g.tt,go_sem]
 refine zdz z5w (by simp [go_sem]) rfl rfl (by simp) rfl rfl rfl rfl rfl (by simp [go_sem]) ?_
 simp [go_sem]
 exact hr _ (by simp [go_sem])
theorem Ex.cmp_lex (x y:Ex):x.cmp y<0 ↔ x.a<y.a\/(x.a=y.a/\(x.b<y.b\/(x.b=y.b/\x.c<y.c))):=by
 unfold Ex.cmp
 repeat' split
 all_goals omega
def sD (x:PV):Prop:=∃ m:GMono,x=enc m
def sX:PV->Ex
 | .agg (.int _ a::.int _ b::.int _ c::_)=>⟨a,b,c⟩
 | _=>⟨0,0,0⟩
theorem ybi (m:GMono):sX (enc m)=m.e:=rfl
theorem Ex.ext' {x y:Ex} (h1:¬ x.cmp y<0) (h2:¬ y.cmp x<0):x=y:=by
 rw [Ex.cmp_lex] at h1 h2
 cases x; cases y; simp only [Ex.mk.injEq] at *; omega
theorem z4d (l l':List GMono) (hl:l.length<=1073741824) (hk:(l.map (·.e)).Nodup) (hp:l'.Perm l) (hs:l'.Pairwise fun x y=>y.e.cmp x.e<0):SpM P F.ch [.sl (ens l),.fn F.bp []] 0 6 (ens l') (.pure (.tup [])):=by
 have hfn:=zj8 c.ch
 have hgn:=zj8 c.bp
 cases l with
 | nil =>
  have:l'=[]:=List.Perm.eq_nil hp
  subst this
  refine SpM.of_vm c.ch (by simp) rfl rfl ?_
  simp [g.ch,go_sem]
  refine zaa z9g rfl ?_
  simp [go_sem]
  refine zdz (z5b 0) (by simp [go_sem]) rfl rfl (by simp) rfl rfl rfl rfl rfl (by simp [go_sem]) ?_
  simp [go_sem]
 | cons m l =>
  have hnd:∀ x y:GMono,x∈m::l->y∈m::l->x.e=y.e->x=y:=fun x y hx hy he=>by
   obtain ⟨i,hi⟩:=List.getElem?_of_mem hx
   obtain ⟨j,hj⟩:=List.getElem?_of_mem hy
   obtain ⟨i1,i2⟩:=List.getElem?_eq_some_iff.1 hi
   obtain ⟨j1,j2⟩:=List.getElem?_eq_some_iff.1 hj
   have:i=j:=(List.getElem_inj (h₀ := by simpa using i1) (h₁ := by simpa using j1) hk).1 (by simp only [List.getElem_map,i2,j2,he])
   subst this; rw [<- i2,<- j2]
  refine ye4.spM hfn (by decide) (D:=sD) (c:=fun x y=>(sX y).cmp (sX x)) hgn ?_ ?_ ?_ ?_ (by simp [ens]) (by simp only [zkb]; omega) ?_ ?_ ?_
  ·rintro _ _ ⟨x,rfl⟩ ⟨y,rfl⟩; exact yfg x y
  ·rintro _ ⟨x,rfl⟩; rw [Ex.cmp_lex]; omega
  ·rintro _ _ _ ⟨x,rfl⟩ ⟨y,rfl⟩ ⟨z,rfl⟩ h1 h2; simp only [Ex.cmp_lex] at *; omega
  ·rintro _ _ _ ⟨x,rfl⟩ ⟨y,rfl⟩ ⟨z,rfl⟩ h1 h2; simp only [Ex.cmp_lex] at *; omega
  ·intro e he; obtain ⟨x,_,rfl⟩:=List.mem_map.1 he; exact ⟨x,rfl⟩
  ·intro e he; exact zzu _ e he
  ·intro l0 h0 hs0
   have hpe:(ens l').Perm (ens (m::l)):=hp.map _
   refine List.Perm.eq_of_pairwise (le:=fun x y=>¬ (sX x).cmp (sX y)<0) (fun a b ha hb h1 h2=>?_) hs0 ?_ (h0.trans hpe.symm)
   ·obtain ⟨x,hx,rfl⟩:=List.mem_map.1 (h0.mem_iff.1 ha)
    obtain ⟨y,hy,rfl⟩:=List.mem_map.1 (hpe.mem_iff.1 hb)
    have:=hnd x y hx hy (Ex.ext' h1 h2)
    rw [this]
   ·rw [ens,List.pairwise_map]
    refine hs.imp fun {x y} h=>?_
    simp only [ybi,Ex.cmp_lex] at *
    omega
end Go.Ab
namespace Go.Ab
open Enc (enc)
def nzm (p:Ex × GRat):Option GMono:=if p.2.v≠0 then some ⟨p.1,p.2⟩ else none
def nz (L:List (Ex × GRat)):List GMono:=L.filterMap nzm
def nzAt (L:List (Ex × GRat)) (j:Nat):Option GMono:=L[j]?.bind nzm
theorem zhb {α β : Type} (f : α -> Option β):∀ (L:List α),(List.range L.length).filterMap (fun j=>L[j]?.bind f)=L.filterMap f
 | []=>rfl
 | x::L=>by
  rw [List.length_cons,List.range_succ_eq_map,List.filterMap_cons]
  have h:(List.map Nat.succ (List.range L.length)).filterMap (fun j=>(x::L)[j]?.bind f)=L.filterMap f:=by
   rw [List.filterMap_map,<- zhb f L]
   rfl
  simp only [List.getElem?_cons_zero,Option.bind_some,h,List.filterMap_cons]
theorem z5h (L:List (Ex × GRat)):(List.range L.length).filterMap (nzAt L)=nz L:=zhb nzm L
theorem zo8 {j:Nat} {Lf:List Nat} (hj:j∈Lf):∀ {R:List Nat},R.Nodup->(R.filter fun i=>i∉Lf.filter fun i => !decide (i=j)).Perm ((if j∈R then [j] else [])++R.filter fun i=>i∉Lf)
 | [],_=>by simp
 | x::R,h=>by
  obtain ⟨h1,h2⟩:=List.nodup_cons.1 h
  have ih:=zo8 hj h2
  by_cases hx:x=j
  ·subst hx
   have e1:decide (x∉Lf.filter fun i => !decide (i=x))=true:=by simp
   have e2:decide (x∉Lf)=false:=by simp [hj]
   rw [if_neg h1] at ih
   simp only [List.filter_cons,e1,e2,Bool.false_eq_true,if_false,List.mem_cons,true_or,if_true,List.singleton_append,List.nil_append] at ih ⊢
   exact ih.cons x
  ·have hm:(j∈x::R) ↔ j∈R:=by simp [Ne.symm hx]
   simp only [hm]
   by_cases hf:x∈Lf
   ·have e1:decide (x∉Lf.filter fun i => !decide (i=j))=false:=by simp [hf,hx]
    have e2:decide (x∉Lf)=false:=by simp [hf]
    simp only [List.filter_cons,e1,e2,Bool.false_eq_true,if_false]
    exact ih
   ·have e1:decide (x∉Lf.filter fun i => !decide (i=j))=true:=by simp [hf]
    have e2:decide (x∉Lf)=true:=by simp [hf]
    simp only [List.filter_cons,e1,e2,if_true]
    exact (ih.cons x).trans List.perm_middle.symm
theorem z89 {L:List (Ex × GRat)} {Lf:List Nat} {j:Nat} (hj:j∈Lf) (hl:j<L.length) {acc:List GMono} (h:acc.Perm (((List.range L.length).filter fun i=>i∉Lf).filterMap (nzAt L))) :
  (match nzAt L j with|some m=>acc++[m]|none=>acc).Perm (((List.range L.length).filter fun i=>i∉Lf.filter fun i => !decide (i=j)).filterMap (nzAt L)):=by
 have h1:=(zo8 hj (R:=List.range L.length) List.nodup_range).filterMap (nzAt L)
 rw [if_pos (List.mem_range.2 hl),List.singleton_append,List.filterMap_cons] at h1
 refine List.Perm.trans ?_ h1.symm
 cases nzAt L j with
 | none=>exact h
 | some m=>exact (List.perm_append_comm (l₁ := acc) (l₂ := [m])).trans (h.cons m)
theorem zwj {L:List (Ex × GRat)} (h:(L.map (·.1)).Nodup):((nz L).map (·.e)).Nodup:=by
 have hsub:∀ L:List (Ex × GRat),((nz L).map (·.e)).Sublist (L.map (·.1)):=by
  intro L
  induction L with
  | nil=>exact List.Sublist.refl _
  | cons p L ih =>
   simp only [nz,List.filterMap_cons,nzm] at ih ⊢
   split
   ·rename_i hn
    exact ih.cons _
   ·rename_i m hm
    split at hm
    ·cases hm; exact ih.cons_cons _
    ·cases hm
 exact (hsub L).nodup h
def lsS (r':Nat) (acc:List GMono):St:=mkSt [(3,.own 1 0 0 acc.length),(7,.p (.itv r'))] [(1,⟨6,avs acc⟩)]
def lsI (r' r:Nat) (L:List (Ex × GRat)) (n:Nat) (s:St) (B:Option FA):Prop:=∃ acc Lf cur,Weak s (lsS r' acc)/\B=some (itFA r' r (mks L) (mvs L) Lf cur)/\Lf.length=n/\acc.length+Lf.length<=L.length/\acc.Perm (((List.range L.length).filter fun i=>i∉Lf).filterMap (nzAt L))
def lsE (r':Nat) (L:List (Ex × GRat)) (ex:Exit) (s:St):Prop:=ex=.exit 0/\∃ acc,Weak s (lsS r' acc)/\acc.Perm (nz L)/\acc.length<=L.length
theorem zx1 (r:Nat) (L:List (Ex × GRat)) (hL:∀ p∈L,p.2.sm 4194304) (hkn:(L.map (·.1)).Nodup) (hlen:L.length<=1000000) (l':List GMono) (hp:l'.Perm (nz L)) (hs:l'.Pairwise fun x y=>y.e.cmp x.e<0) :
  Sp P F.jg [.mp r (mks L) (mvs L)] (.fresh 6 (ens l')):=by
 refine Sp.of_mr c.jg (by simp) ?_
 unfold g.jg
 generalize hP:(fun ex s (_:Option FA)=>retP [(2,none)] (RV.fresh 6 (ens l')) ex s)=Post
 refine MR.gseq ?_
 simp [go_sem]
 refine MR.gseq ?_
 simp [go_sem]
 refine MR.gseq' (MR.gseq' (MR.greg (zqf 1 [[0],[6]] ?_)))
 simp [go_sem]
 refine MIns.cons (z1n ty.map (by rfl) fun r'=>?_)
 refine zga [] ?_
 simp [go_sem]
 refine MR.gblk (MR.mono (MR.gloop (Post:=fun ex s B=>lsE r' L ex s) (I:=lsI r' r L) L.length ?_ ?_) ?_)
 ·refine ⟨[],List.range L.length,none,?_,by simp [mks],by simp,by simp,?_⟩
  ·exact Weak.nl 3 1 6 rfl (Weak.to [3,7] [((1,0),1)] (by simp [lsS,mkSt,go_sem]))
  ·have:(List.range L.length).filter (fun i=>i∉List.range L.length)=[]:=by
    rw [List.filter_eq_nil_iff]; intro a ha; simp at ha ⊢; exact ha
   rw [this]; exact List.Perm.refl _
 ·rintro n s B ⟨acc,Lf,cur,hw,rfl,hn,hac,hperm⟩
  refine MR.weak hw ?_
  unfold g.th
  refine MR.gseq' (MR.greg (MIns.cons (z5n rfl (fun h0=>?_) (fun j hj kv vv hkv hvv=>?_))))
  ·refine zga [[8]] ?_
   simp [go_sem]
   refine MR.gseq' (MR.gcond (t:=false) rfl (fun h=>by cases h) (fun _=>MR.gext ⟨fun h=>(by cases h),fun _=>⟨fun h=>(by cases h),fun _=>⟨rfl,acc,?_,?_,by omega⟩⟩⟩))
   ·exact Weak.to [3,7] [((1,0),1)] (by simp [lsS,mkSt,go_sem])
   ·subst h0
    have e:(List.range L.length).filter (fun i=>decide (i∉([]:List Nat)))=List.range L.length:=List.filter_eq_self.2 (by simp)
    rw [e,z5h] at hperm; exact hperm
  ·obtain ⟨p,hpj,rfl,rfl⟩:∃ p:Ex × GRat,L[j]?=some p/\kv=enc p.1/\vv=enc p.2:=by
    simp only [mks,List.getElem?_map,Option.map_eq_some_iff] at hkv
    obtain ⟨p,h1,rfl⟩:=hkv
    simp only [mvs,List.getElem?_map,h1,Option.map_some,Option.some.injEq] at hvv
    exact ⟨p,h1,rfl,hvv.symm⟩
   have hjl:=(List.getElem?_eq_some_iff.1 hpj).1
   refine zga [[8]] ?_
   simp [go_sem]
   refine MR.gseq' (MR.gcond (t:=true) rfl (fun _=>MR.gnop ⟨fun _=>?_,fun h=>absurd rfl h⟩) (fun h=>by cases h))
   refine MR.gblk (MR.gseq' (MR.greg (MIns.cons (z1o rfl hkv hvv ?_))))
   refine zga [[],[10],[],[],[11],[12]] ?_
   simp [lsS,mkSt,go_sem]
   refine MR.of_vm ?_
   simp [go_sem]
   refine zaa (zlb p.2 (hL p (List.mem_of_getElem? hpj))) rfl ?_
   have hstep:=z89 hj hjl hperm
   have hlt:(Lf.filter fun i => !decide (i=j)).length<Lf.length:=by
    refine Nat.lt_of_le_of_ne (List.length_filter_le _ _) fun h=>?_
    have:=(List.length_filter_eq_length_iff.1 h) j hj
    simp at this
   by_cases hz:p.2.v=0
   ·have hsg:sgnR p.2.v=0:=(zfm _).2 hz
    simp [go_sem,hsg]
    have hnz:nzAt L j=none:=by simp [nzAt,hpj,nzm,hz]
    rw [hnz] at hstep
    exact ⟨fun _=>⟨_,by rw [<- hn]; exact hlt,acc,_,_,Weak.to [3,7] [((1,0),1)] (by simp [lsS,mkSt,go_sem]),rfl,rfl,by omega,hstep⟩,fun h=>absurd rfl h⟩
   ·have hsg:sgnR p.2.v≠0:=fun h=>hz ((zfm _).1 h)
    simp [go_sem,hsg]
    have hnz:nzAt L j=some ⟨p.1,p.2⟩:=by simp [nzAt,hpj,nzm,hz]
    rw [hnz] at hstep
    exact ⟨by omega,fun _=>⟨_,by rw [<- hn]; exact hlt,acc++[⟨p.1,p.2⟩],_,_,Weak.to [3,7] [((21,0),1)] (by simp [lsS,mkSt,go_sem]),rfl,rfl,by simp; omega,hstep⟩,fun h=>absurd rfl h⟩
 ·rintro ex s B ⟨rfl,acc,hw,hperm,hac⟩
  refine ⟨fun _=>?_,fun h=>absurd rfl h⟩
  refine MR.weak hw (MR.of_vm ?_)
  simp [lsS,mkSt,go_sem]
  subst hP
  have hkn':(acc.map (·.e)).Nodup:=(hperm.map _).nodup_iff.2 (zwj hkn)
  have hll:l'.length=acc.length:=(hp.trans hperm.symm).length_eq
  refine zdz (z4d acc l' (by omega) hkn' (hp.trans hperm.symm) hs) (by simp [go_sem]) rfl rfl (by simp) (by simp [go_sem]) (by simp [go_sem,hll]) rfl (zda _ _ rfl) (cells_one (fun _=>rfl) _) (by simp [go_sem]) ?_
  simp [go_sem,hll]
end Go.Ab
namespace Go.Ab
open Enc (enc)
theorem zR_v:zR.v=0:=zg8
structure MInv (ms:List GMono) (L:List (Ex × GRat)):Prop where
 tot:∀ e,(zia e L).v=pc ms e
 val:∀ e c,mget e L=some c->c=rto (pc ms e)/\∃ m∈ms,m.e=e
 nod:(L.map (·.1)).Nodup
 len:L.length<=ms.length
theorem zwm {κ α : Type} [DecidableEq κ] (e : κ) (c : α):∀ L:List (κ × α),(mset e c L).length<=L.length+1
 | []=>by simp [mset]
 | (e',c')::L=>by
  have:=zwm e c L
  simp only [mset]; split<;>simp<;>omega
theorem zmo {κ α : Type} [DecidableEq κ] {e : κ} {c : α}:∀ {L:List (κ × α)},(L.map (·.1)).Nodup->(e,c)∈L->mget e L=some c
 | (e',c')::L,hn,h=>by
  obtain ⟨h1,h2⟩:=List.nodup_cons.1 hn
  simp only [mget]
  rcases List.mem_cons.1 h with h|h
  ·cases h; simp
  ·have:e'≠e:=by rintro rfl; exact h1 (List.mem_map.2 ⟨_,h,rfl⟩)
   rw [if_neg this]; exact zmo h2 h
theorem MInv.step {ms:List GMono} {L:List (Ex × GRat)} (h:MInv ms L) (m:GMono):MInv (ms++[m]) (madd m L):=by
 have hpc:∀ e,pc (ms++[m]) e=pc ms e+if m.e=e then m.coef.v else 0:=fun e=>by rw [zmc]; simp [pc,Rat.add_zero]
 refine ⟨fun e=>?_,fun e c hc=>?_,zyi _ _ h.nod,?_⟩
 ·rw [hpc]
  simp only [zia,madd,zmp]
  split
  ·rename_i he; subst he
   simp only [Option.getD_some,zbg]
   have:=h.tot m.e; simp only [zia] at this; rw [this]
  ·rw [Rat.add_zero]; exact h.tot e
 ·simp only [madd,zmp] at hc
  rw [hpc]
  split at hc
  ·rename_i he; subst he
   cases hc
   exact ⟨by rw [h.tot,if_pos rfl],m,by simp,rfl⟩
  ·rename_i he
   obtain ⟨q1,x,q2,q3⟩:=h.val e c hc
   exact ⟨by rw [if_neg he,Rat.add_zero]; exact q1,x,by simp [q2],q3⟩
 ·have:=zwm m.e (rto ((zia m.e L).v+m.coef.v)) L
  have:=h.len
  simp only [madd,List.length_append,List.length_singleton]; omega
def zms (ms:List GMono) (L:List (Ex × GRat)):List (Ex × GRat):=ms.foldl (fun L m=>madd m L) L
theorem MInv.fold:∀ (ms':List GMono) {ms:List GMono} {L:List (Ex × GRat)},MInv ms L->MInv (ms++ms') (zms ms' L)
 | [],ms,L,h=>by simpa [zms] using h
 | m::ms',ms,L,h=>by
  have:=MInv.fold ms' (h.step m)
  simpa [zms] using this
theorem MInv.nil:MInv [] []:=⟨fun e=>zR_v,fun e c h=>(by cases h),by simp,by simp⟩
theorem minv (ms:List GMono):MInv ms (zms ms []):=by simpa using MInv.fold ms MInv.nil
theorem MInv.mem {ms:List GMono} {L:List (Ex × GRat)} (h:MInv ms L) {p:Ex × GRat} (hp:p∈L):p.2=rto (pc ms p.1)/\∃ m∈ms,m.e=p.1:=h.val p.1 p.2 (zmo h.nod hp)
theorem z83 {p q:List GMono} (h:p.Perm q) (e:Ex):pc p e=pc q e:=by
 induction h with
 | nil=>rfl
 | cons x _ ih=>simp only [pc,ih]
 | swap x y l=>simp only [pc]; rw [<- Rat.add_assoc,<- Rat.add_assoc,Rat.add_comm (if y.e=e then y.coef.v else 0)]
 | trans _ _ ih1 ih2=>rw [ih1,ih2]
theorem z1k {L:List (Ex × GRat)} {m:GMono} (h:m∈nz L):(m.e,m.coef)∈L/\m.coef.v≠0:=by
 obtain ⟨p,hp,h⟩:=List.mem_filterMap.1 h
 unfold nzm at h
 split at h
 ·rename_i hz; cases h; exact ⟨hp,hz⟩
 ·cases h
theorem ybv:∀ {L:List (Ex × GRat)} (e:Ex),(L.map (·.1)).Nodup->pc (nz L) e=(zia e L).v
 | [],e,_=>by simp [nz,pc,zia,mget,zR_v]
 | (e1,c1)::L,e,h=>by
  obtain ⟨h1,h2⟩:=List.nodup_cons.1 h
  have ih:=ybv (L:=L) e h2
  have hcons:nz ((e1,c1)::L)=if c1.v≠0 then ⟨e1,c1⟩::nz L else nz L:=by
   simp only [nz,List.filterMap_cons,nzm]; split<;>split<;>simp_all
  rw [hcons]
  simp only [zia,mget]
  by_cases he:e1=e
  ·subst he
   have hz:pc (nz L) e1=0:=zh7 fun m hm hme=>h1 (List.mem_map.2 ⟨_,(z1k hm).1,hme⟩)
   split
   ·simp [pc,hz,Rat.add_zero]
   ·rename_i hc; simp at hc; simp [hz,hc]
  ·simp only [if_neg he]
   simp only [zia] at ih
   split
   ·simp [pc,he,ih,Rat.zero_add]
   ·exact ih
theorem z05 {p q:List GMono} (hp:PVal p) (hq:PVal q) {L:List (Ex × GRat)} (h:MInv (p++q) L):(padd p q).Perm (nz L):=by
 have hok:∀ m∈p++q,m.ok=true:=fun m hm=>by
  rcases List.mem_append.1 hm with h|h
  ·exact (zaj.1 hp).1 m h
  ·exact (zaj.1 hq).1 m h
 have hnok:∀ m∈nz L,m.ok=true:=fun m hm=>by
  obtain ⟨h1,h2⟩:=z1k hm
  obtain ⟨h3,x,h4,h5⟩:=h.mem h1
  simp only at h3 h5
  refine GMono.ok_iff.2 ⟨?_,by rw [h3]; exact zbe _,h2⟩
  rw [<- h5]; exact (GMono.ok_iff.1 (hok x h4)).1
 let le:GMono->GMono->Bool:=fun a b=>decide (b.e.code<=a.e.code)
 have hperm:((nz L).mergeSort le).Perm (nz L):=List.mergeSort_perm _ _
 have hsort:((nz L).mergeSort le).Pairwise fun a b=>le a b=true:=List.pairwise_mergeSort (fun a b c h1 h2=>by simp only [le,decide_eq_true_eq] at *; omega) (fun a b=>by simp only [le,Bool.or_eq_true,decide_eq_true_eq]; omega) _
 have hnd:(((nz L).mergeSort le).map (·.e)).Nodup:=(hperm.map _).nodup_iff.2 (zwj h.nod)
 have hval:PVal ((nz L).mergeSort le):=by
  refine zaj.2 ⟨fun m hm=>hnok m (hperm.mem_iff.1 hm),?_⟩
  have h2:((nz L).mergeSort le).Pairwise fun a b=>a.e≠b.e:=List.pairwise_map.1 hnd
  refine (hsort.and h2).imp_of_mem fun {a b} ha hb hab=>?_
  have oa:=(GMono.ok_iff.1 (hnok a (hperm.mem_iff.1 ha))).1
  have ob:=(GMono.ok_iff.1 (hnok b (hperm.mem_iff.1 hb))).1
  have h3:b.e.code<=a.e.code:=by simpa [le] using hab.1
  have h4:b.e.code≠a.e.code:=fun he=>hab.2 ((Ex.code_inj ob oa).1 he).symm
  omega
 have:padd p q=(nz L).mergeSort le:=by
  refine zi3 (zb9 q hp) hval fun e=>?_
  rw [zfa p (zaj.1 hq).1,z83 hperm,ybv e h.nod,h.tot,zmc]
 rw [this]; exact hperm
theorem zuj {p q:List GMono} (hp:PVal p):(padd p q).Pairwise fun x y=>y.e.cmp x.e<0:=by
 have hv:=zaj.1 (zb9 q hp)
 refine hv.2.imp_of_mem fun {a b} ha hb h=>?_
 exact (Ex.cmp_neg (GMono.ok_iff.1 (hv.1 b hb)).1 (GMono.ok_iff.1 (hv.1 a ha)).1).2 h
theorem MInv.sm {p q:List GMono} {n:Nat} (hp:PVal p) (hq:PVal q) (sp:psm p n) (sq:psm q n) (hn:1<=n) {L:List (Ex × GRat)} (h:MInv (p++q) L):∀ x∈L,x.1.ok=true/\x.2.sm (n+n+1):=by
 intro x hx
 obtain ⟨h1,m,h2,h3⟩:=h.mem hx
 refine ⟨?_,?_⟩
 ·rw [<- h3]
  rcases List.mem_append.1 h2 with h|h
  ·exact (GMono.ok_iff.1 ((zaj.1 hp).1 m h)).1
  ·exact (GMono.ok_iff.1 ((zaj.1 hq).1 m h)).1
 ·have ga:∀ {p:List GMono},PVal p->psm p n->∃ a:GRat,a.sm n/\a.v=pc p x.1:=fun {p} hv sp=>by
   rcases zp7 hv x.1 with h|⟨y,hy,h⟩
   ·exact ⟨gr0,zh3 n,by rw [zg8,h]⟩
   ·exact ⟨y.coef,sp y hy,h.symm⟩
  obtain ⟨a,a1,a2⟩:=ga hp sp
  obtain ⟨b,b1,b2⟩:=ga hq sq
  rw [h1,zmc,<- a2,<- b2]
  exact zjv a1 b1 hn hn
end Go.Ab
namespace Go.Ab
open Enc (enc)
def paS (r:Nat) (ms:List GMono) (k:Nat):St:=mkSt [(5,.p (.mapv r)),(14,.own 1 0 0 ms.length),(15,.p (.int .i64 ms.length)),(16,.p (.int .i64 k))] [(1,⟨6,avs ms⟩)]
def paB (r:Nat) (ms:List GMono):Option FA:=some (zib r (mks (zms ms [])) (mvs (zms ms [])))
def paI (r:Nat) (ms:List GMono) (n:Nat) (s:St) (B:Option FA):Prop:=∃ k,k<=ms.length/\n=ms.length - k/\Weak s (paS r ms k)/\B=paB r (ms.take k)
def paE (r:Nat) (ms:List GMono) (ex:Exit) (s:St) (B:Option FA):Prop:=ex=.exit 0/\Weak s (paS r ms ms.length)/\B=paB r ms
theorem zyl (ms:List GMono) (m:GMono):zms (ms++[m]) []=madd m (zms ms []):=by simp [zms]
def paR:GC:=.seq (.reg [⟨some 27,.mv (.t 5),none⟩,⟨some 28,.call F.jg [.t 27],none⟩,⟨some 4,.mv (.t 28),none⟩] [[5,14,15,16],[27],[28]])
 (.ret)
theorem z06 (r:Nat) (p q:List GMono) (n:Nat) (vp:PVal p) (vq:PVal q) (sp:psm p n) (sq:psm q n) (hn1:1<=n) (hn:n<=100000) (lp:p.length<=100000) (lq:q.length<=100000) {s:St} (hw:Weak s (paS r (p++q) 0)) :
  MR P 29 (GC.blk 0 (.loop g.pj)).er s (paB r []) fun ex s B=>(ex=.normal->MR P 29 paR.er s B fun ex s _=>retP [(4,none)] (RV.pure (.sl (ens (padd p q)))) ex s)/\(ex ≠ .normal->retP [(4,none)] (RV.pure (.sl (ens (padd p q)))) ex s):=by
 have hlen:(p++q).length<=200000:=by simp; omega
 have hokm:∀ m∈p++q,m.e.ok=true/\m.coef.sm n:=fun m hm=>by
  rcases List.mem_append.1 hm with h|h
  ·exact ⟨(GMono.ok_iff.1 ((zaj.1 vp).1 m h)).1,sp m h⟩
  ·exact ⟨(GMono.ok_iff.1 ((zaj.1 vq).1 m h)).1,sq m h⟩
 have hinv:∀ k,∀ x∈zms ((p++q).take k) [],x.1.ok=true/\x.2.sm 1048576:=fun k x hx=>by
  have h:=minv ((p++q).take k)
  have e:(p++q).take k=p.take k++q.take (k - p.length):=List.take_append
  rw [e] at h hx
  obtain ⟨h1,h2⟩:=h.sm (vp.take k) (vq.take _) (fun m hm=>sp m (List.mem_of_mem_take hm)) (fun m hm=>sq m (List.mem_of_mem_take hm)) hn1 x hx
  exact ⟨h1,h2.mono (by omega)⟩
 have hfin:=minv (p++q)
 have hsm:=hinv (p++q).length
 rw [List.take_length] at hsm
 have hperm:=z05 vp vq hfin
 have hsort:=zuj (p:=p) (q:=q) vp
 generalize hms:p++q=ms at *
 refine MR.gblk (MR.mono (MR.gloop (Post:=paE r ms) (I:=paI r ms) ms.length ⟨0,by omega,by omega,hw,rfl⟩ ?_) ?_)
 ·rintro n0 s B ⟨k,hk,rfl,hw,rfl⟩
  refine MR.weak hw ?_
  unfold g.pj
  refine MR.gseq ?_
  simp [paS,mkSt,go_sem]
  by_cases hlt:k<ms.length
  ·refine MR.gseq' (MR.gcond (t:=true) (by simp [go_sem,hlt]) (fun _=>MR.gnop ⟨fun _=>?_,fun h=>absurd rfl h⟩) (fun h=>by cases h))
   simp [go_sem]
   refine MR.gseq' (MR.gblk (MR.gseq ?_))
   simp [go_sem]
   refine ⟨hlt,zae hlt ?_⟩
   have hmk:=hokm ms[k] (List.getElem_mem hlt)
   refine MR.greg (zqf 5 [[],[],[21],[7],[23]] ?_)
   simp [go_sem]
   refine MIns.cons (z1q (args:=[enc ms[k].e,enc ms[k].coef]) (zzv ms[k] _ hmk.1 (hmk.2.mono (by omega)) (hinv k)) (by simp [go_sem]) (zwl _) (zwk _) ?_)
   refine zga [[20,22,24,25]] ?_
   simp [go_sem]
   refine ⟨fun _=>MR.of_vm ?_,fun h=>absurd rfl h⟩
   have e3:=i64s k (by omega)
   simp [go_sem,e3]
   refine ⟨_,?_,k+1,by omega,rfl,Weak.to [5,14,15,16] [((1,0),1)] (by simp [paS,mkSt,go_sem]),?_⟩
   ·omega
   ·simp only [paB]; rw [List.take_succ_eq_append_getElem hlt,zyl]
  ·have hk':k=ms.length:=by omega
   refine MR.gseq' (MR.gcond (t:=false) (by simp [go_sem,hlt]) (fun h=>by cases h) (fun _=>MR.gext ⟨fun h=>(by cases h),fun _=>⟨fun h=>(by cases h),fun _=>⟨rfl,?_,?_⟩⟩⟩))
   ·exact Weak.to [5,14,15,16] [((1,0),1)] (by simp [paS,mkSt,go_sem,hk'])
   ·rw [hk',List.take_length]
 ·rintro ex s B ⟨rfl,hw,rfl⟩
  refine ⟨fun _=>?_,fun h=>absurd rfl h⟩
  refine MR.weak hw (MR.freeze (t:=5) rfl ?_)
  refine MR.of_vm ?_
  simp [paR,paS,mkSt,go_sem]
  have hpl:=zp9 p q
  refine zij (zx1 r (zms ms []) (fun x hx=>(hsm x hx).2.mono (by omega)) hfin.nod (by have:=hfin.len; omega) (padd p q) hperm hsort) (by simp [go_sem]) ⟨zda _ _ rfl,by decide,by simp [ens,LIM]; omega⟩ _ rfl ?_
  simp [go_sem,killAll]
theorem zx6 (p q:List GMono) (n:Nat) (sp:psm p n) (sq:psm q n) (hn1:1<=n) (hn:n<=100000) (lp:p.length<=100000) (lq:q.length<=100000) :
  Sp P F.mo [.sl (ens p),.sl (ens q)] (.pure (.sl (ens (padd (pv p) (pv q))))):=by
 refine Sp.of_mr c.mo (by simp) ?_
 unfold g.mo
 generalize hP:(fun ex s (_:Option FA)=>retP [(4,none)] (RV.pure (.sl (ens (padd (pv p) (pv q))))) ex s)=Post
 have vp:=z7d p
 have vq:=z7d q
 have s1:=z7e sp
 have s2:=z7e sq
 have l1:=z7f p
 have l2:=z7f q
 refine MR.gseq ?_
 simp [go_sem]
 refine MR.gseq' (MR.greg (MIns.cons (zur fun r=>?_)))
 refine zga [[8]] ?_
 simp [go_sem]
 refine MR.gseq' (MR.gseq ?_)
 simp [go_sem]
 refine zaa (zr9 p (sp.mono (by omega)) (by omega)) rfl ?_
 simp [go_sem]
 refine zaa (zr9 q (sq.mono (by omega)) (by omega)) rfl ?_
 simp [go_sem]
 refine zij (z26 (pv p) (pv q) (by omega)) (by simp [go_sem]) ⟨zda _ _ rfl,by decide,by simp [ens,LIM]; omega⟩ _ rfl ?_
 cases hfl:(ens (pv p++pv q)).all PV.flat
 ·simp [go_sem,killAll]
  subst hP
  refine z06 r (pv p) (pv q) n vp vq s1 s2 hn1 hn (by omega) (by omega) ?_
  exact Weak.to [5,14,15,16] [((14,0),1)] (by simp [paS,mkSt,go_sem])
 ·simp [go_sem]
  subst hP
  refine z06 r (pv p) (pv q) n vp vq s1 s2 hn1 hn (by omega) (by omega) ?_
  exact Weak.to [5,14,15,16] [((14,0),1)] (by simp [paS,mkSt,go_sem])
end Go.Ab
namespace Go.Ab
open Enc (enc)
theorem z0v (v w:GW) (n:Nat) (hv:v.sm n) (hw:w.sm n) (hn:n<=100000) (hn1:1<=n) (pv':PVal v.poly) (pw:PVal w.poly):Sp P F.ej [enc v,enc w] (.pure (enc (zap 5 v w))):=by
 have h1:v.poly.length<=100000:=by have:=zbh pv'; omega
 have h2:w.poly.length<=100000:=by have:=zbh pw; omega
 have k:=zx6 v.poly w.poly n hv.poly hw.poly hn1 hn h1 h2
 rw [zsb pv',zsb pw] at k
 refine Sp.vz c.ej fun _=>?_
 simp [g.ej,go_sem]
 refine zaa k rfl ?_
 simp [go_sem,zap,gr0]
theorem zv9 (k:Int) (hk:1<=k/\k<=5) (v w:GW) (n:Nat) (hv:v.sm n) (hw:w.sm n) (hn:n<=2000) (hn1:1<=n) (sv:v.si k) (sw:w.si k):Sp P (kF3 k) (enc v::enc w::kC3 k) (.pure (enc (zap k v w))):=by
 have:k=1\/k=2\/k=3\/k=4\/k=5:=by omega
 have hv':=hv.mono (show n<=1048576 by omega)
 have hw':=hw.mono (show n<=1048576 by omega)
 rcases this with rfl|rfl|rfl|rfl|rfl
 ·exact z4y v w hv' hw'
 ·exact z6r v w sv sw
 ·exact z57 v w hv' hw' sv sw
 ·exact z4g v w
 ·exact z0v v w n hv hw (by omega) hn1 (sv.2.2.2.2.2.2.2.2 rfl) (sw.2.2.2.2.2.2.2.2 rfl)
theorem z8q (r:GRing) (v w:GW) (n:Nat) (hv:v.sm n) (hw:w.sm n) (hn:n<=2000) (hn1:1<=n) (cv:v.chk r) (cw:w.chk r) (h6:r.kind≠6):Sp P F.bb [enc r,enc v,enc w] (.pure (enc (zap r.kind v w))):=by
 have hr0:=cv.1
 have hk:=GRing.ok_kind hr0 h6
 have t1:v.tk r=v:=if_pos cv
 have t2:w.tk r=w:=if_pos cw
 have k1:=ziq r v (hv.mono (by omega))
 have k2:=ziq r w (hw.mono (by omega))
 rw [t1] at k1; rw [t2] at k2
 refine Sp.vz c.bb fun _=>?_
 simp [g.bb,go_sem]
 refine zaa (zfi r) rfl ?_
 simp [hr0,go_sem]
 refine zab k1 ?_
 simp [go_sem]
 refine zab k2 ?_
 simp [go_sem,h6]
 obtain ⟨f5,f6,f7,f8,c5,c8,hA⟩:=zgc r.kind ⟨hk.1,hk.2.1⟩
 refine zaa (zmy r.kind ⟨hk.1,hk.2.1⟩) rfl ?_
 simp [hA,go_sem]
 refine zaa (zv9 r.kind ⟨hk.1,hk.2.1⟩ v w n hv hw hn hn1 (cv.2.1 h6) (cw.2.1 h6)) (zbw (by simp [go_sem]) (zbw (by simp [go_sem]) (zed _ _))) ?_
 simp [go_sem]
end Go.Ab
namespace Go.Ab
open Enc (enc)
theorem z0z (k:Int) (hk:1<=k/\k<=5) (v w:GW) (i n:Nat) (iv:i<v.parts.length) (iw:i<w.parts.length) (hi:i<=3) (hv:v.parts[i].sm n) (hw:w.parts[i].sm n) (hn:n<=2000) (hn1:1<=n) (sv:v.parts[i].si k) (sw:w.parts[i].si k) :
  Sp P F.ib [zny k,.int .i64 i,.ref (enc v),.ref (enc w)] (.pure (enc (zap k v.parts[i] w.parts[i]))):=by
 obtain ⟨f5,f6,f7,f8,c5,c8,hA⟩:=zgc k hk
 rw [hA]
 refine Sp.of_vmW c.ib (by simp) ((Weak.openRef (t:=2) (v:=enc v) (n:=8) (by simp [go_sem]) (by simp [go_sem])).trans (Weak.openRef (t:=3) (v:=enc w) (n:=8) (by simp [go_sem]) (by simp [go_sem]))) ?_
 simp [g.ib,go_sem]
 refine zae iv ?_
 refine zae iw ?_
 refine zaa (zv9 k hk v.parts[i] w.parts[i] n hv hw hn hn1 sv sw) (zbw (by simp [go_sem]) (zbw (by simp [go_sem]) (zed _ _))) ?_
 simp [go_sem]
theorem zfl (st:St) (s g ix off:Nat):toPV st 4 (.ptr s g ix off)=if ix=0/\off=0 then match st.obj s g with
  | some o=>match o.es with
   | [e]=>(toPV st 3 e).map .ref
   | _=>none
  | none=>none
  else none:=rfl
theorem zju (st:St) (v:PV):toPV st 3 (.p v)=some v:=rfl
theorem zf5 (r:GRing) (v w:GW) (n:Nat) (hv:v.sm n) (hw:w.sm n) (hn:n<=2000) (hn1:1<=n) (cv:v.chk r) (cw:w.chk r):Sp P F.bb [enc r,enc v,enc w] (.pure (enc (r.plus v w))):=by
 have hr0:=cv.1
 by_cases h6:r.kind=6
 rotate_left
 ·have h1:r.plus v w=zap r.kind v w:=by simp [GRing.plus,h6]
  rw [h1]; exact z8q r v w n hv hw hn hn1 cv cw h6
 have hp:=GRing.ok_parts hr0 h6
 have t1:v.tk r=v:=if_pos cv
 have t2:w.tk r=w:=if_pos cw
 have k1:=ziq r v (hv.mono (by omega))
 have k2:=ziq r w (hw.mono (by omega))
 rw [t1] at k1; rw [t2] at k2
 have lv:=(cv.2.2 h6).1
 have lw:=(cw.2.2 h6).1
 have lp:(zd0 r.parts v.parts w.parts).length=r.parts.length:=za8 lv lw
 refine Sp.vz c.bb fun _=>?_
 simp [g.bb,go_sem]
 refine zaa (zfi r) rfl ?_
 simp [hr0,go_sem]
 refine zab k1 ?_
 simp [go_sem]
 refine zab k2 ?_
 simp [go_sem,h6]
 refine zaa (z21 r hp.2.2 hp.2.1 F.ib [.ref (enc v),.ref (enc w)] (zd0 r.parts v.parts w.parts) lp fun i h h'=>?_) ?_ ?_
 ·rw [zbl h (by omega) (by omega) h']
  exact z0z r.parts[i] (hp.2.2 _ (List.getElem_mem h)) v w i n (by omega) (by omega) (by omega) (hv.parts _ (List.getElem_mem _)) (hw.parts _ (List.getElem_mem _)) hn hn1 ((cv.2.2 h6).2.2 i h (by omega)) ((cw.2.2 h6).2.2 i h (by omega))
 ·simp [go_sem,zfl,zju,h6]
 simp [go_sem,GRing.plus,h6]
end Go.Ab
namespace Go.Ab
open Enc (enc)
theorem zo3 (r:GRing) (w:GW) (hw:w.sm 1048576):Sp P F.gj [enc r,enc w] (.pure (.bool (decide (w=r.zero)))):=by
 refine Sp.vz c.gj fun _=>?_
 simp [g.gj,go_sem]
 refine zaa (zfy r) rfl ?_
 simp [go_sem]
 refine zab (zen w hw r.zero) ?_
 simp [go_sem]
theorem z4t (r:GRing) (hl:r.parts.length<=2147483648):Sp P F.kx [enc r] (.pure (enc r)):=by
 refine Sp.vz c.kx fun _=>?_
 simp [g.kx,go_sem]
 refine zab (zph r.parts hl) ?_
 simp [go_sem]
theorem zrj (r:GRing) (w:GW) (hw:w.sm 1048576):Sp P F.gz [enc w,.ref (enc r)] (.pure (.bool (!decide (w.chk r)))):=by
 refine Sp.of_vmW c.gz (by simp) (Weak.openRef (t:=1) (v:=enc r) (n:=2) (by simp [go_sem]) (by simp [go_sem])) ?_
 simp [g.gz,go_sem]
 refine zab (zhh r w hw) ?_
 simp [go_sem]
end Go.Ab
namespace Go.Ab
open Enc (enc)
theorem z08 (x y:GArc):Sp P F.bz [enc x,enc y] (.pure (.int .i64 (zh4 [cmpI x.f y.f,cmpI x.l y.l,cmpI x.t y.t]))):=by
 refine Sp.vz c.bz fun _=>?_
 simp [g.bz,go_sem]
 refine zaa (zfg x.f y.f) rfl ?_
 simp [go_sem]
 refine zaa (zfg x.l y.l) rfl ?_
 simp [go_sem]
 refine zaa (zfg x.t y.t) rfl ?_
 simp [go_sem]
 refine zab (zxk [cmpI x.f y.f,cmpI x.l y.l,cmpI x.t y.t] (by simp)) ?_
 simp [go_sem]
theorem zlp (r:GRing) (l:List GW) (hl:∀ w∈l,w.sm 1048576) (hlen:l.length<=2147483648):Sp P F.kn [enc r,.sl (ens l)] (.pure (.bool (!l.any fun w => !decide (w.chk r)))):=by
 refine Sp.vz c.kn fun _=>?_
 simp [g.kn,go_sem]
 refine zaa (zh2 l F.gz [.ref (enc r)] (fun w => !decide (w.chk r)) (by omega) fun w hw=>zrj r w (hl w hw)) (by simp [go_sem,zfl,zju]) ?_
 simp [go_sem]
theorem zrp (st:St) (s g ix off:Nat):toPV st FUEL (.ptr s g ix off)=if ix=0/\off=0 then match st.obj s g with
  | some o=>match o.es with
   | [e]=>(toPV st 4 e).map .ref
   | _=>none
  | none=>none
  else none:=rfl
theorem zzl (st:St) (v:PV):toPV st 4 (.p v)=some v:=rfl
theorem zmz (x:Int) (a:GAuto):Sp P F.lh [.int .i64 x,.ref (enc a)] (.pure (.bool (decide (0<=x/\x<a.st)))):=by
 refine Sp.of_vmW c.lh (by simp) (Weak.openRef (t:=1) (v:=enc a) (n:=7) (by simp [go_sem]) (by simp [go_sem])) ?_
 simp [g.lh,go_sem]
 exact ⟨fun h _=>h,fun h h'=>by omega⟩
def inA (x:GArc) (a:GAuto):Prop:=0<=x.f/\x.f<a.st/\0<=x.t/\x.t<a.st/\0<=x.l/\x.l<=a.sy/\x.w.chk a.ring
noncomputable instance (x:GArc) (a:GAuto):Decidable (inA x a):=Classical.propDecidable _
theorem zym (x:GArc) (a:GAuto) (hw:x.w.sm 1048576):Sp P F.km [enc x,enc a] (.pure (.bool (decide (inA x a)))):=by
 refine Sp.vz c.km fun _=>?_
 have hd:decide (inA x a)=(decide (0<=x.f)&&(decide (x.f<a.st)&&(decide (0<=x.t)&&(decide (x.t<a.st)&&(decide (0<=x.l)&&(decide (x.l<=a.sy)&&decide (x.w.chk a.ring))))))):=by
  rw [Bool.eq_iff_iff,decide_eq_true_iff]; simp only [decide_eq_true_eq,Bool.and_eq_true]; exact Iff.rfl
 rw [hd]
 simp [g.km,go_sem]
 refine zaa (zmz x.f a) (by simp [go_sem,zrp,zzl]) ?_
 simp [go_sem]
 refine ⟨fun h1 h2=>?_,fun h1=>?_⟩
 ·refine zaa (zmz x.t a) (by simp [go_sem,zrp,zzl]) ?_
  simp [go_sem]
  refine ⟨fun h3 h4=>⟨fun h5=>⟨fun h6=>?_,fun h6=>?_⟩,fun h5=>?_⟩,fun h3=>?_⟩
  ·refine zab (zhh a.ring x.w hw) ?_
   simp [go_sem,h1,h2,h3,h4,h5,h6]
  ·intros; omega
  ·intros; omega
  ·intro _ _ h; have:=h3 h; intros; omega
 ·intro h; have:=h1 h; intros; omega
end Go.Ab
namespace Go.Ab
open Enc (enc)
theorem ztx (x:GArc) (a:GAuto) (hw:x.w.sm 1048576):Sp P F.gh [enc x,.ref (enc a)] (.pure (.bool (!decide (inA x a)))):=by
 refine Sp.of_vmW c.gh (by simp) (Weak.openRef (t:=1) (v:=enc a) (n:=7) (by simp [go_sem]) (by simp [go_sem])) ?_
 simp [g.gh,go_sem]
 refine zab (zym x a hw) ?_
 simp [go_sem]
noncomputable def GAuto.vb (a:GAuto):Bool:=a.ring.ok&&(decide (1<=a.sy)&&(decide (a.sy<=32)&&(decide (0<=a.st)&&(decide (a.st<=64)&&(decide ((a.ini.length:Int)=a.st)&&(decide ((a.fin.length:Int)=a.st)&&(decide (a.arcs.length<=2048)&&((!a.arcs.any fun x => !decide (inA x a))&&((!a.ini.any fun w => !decide (w.chk a.ring))&&(!a.fin.any fun w => !decide (w.chk a.ring)))))))))))
structure GAuto.sm (a:GAuto) (n:Nat):Prop where
 ini:∀ w∈a.ini,w.sm n
 fin:∀ w∈a.fin,w.sm n
 arcs:∀ x∈a.arcs,x.w.sm n
theorem zrl (a:GAuto) (h:a.sm 1048576):Sp P F.fv [enc a] (.pure (.bool a.vb)):=by
 refine Sp.vz c.fv fun _=>?_
 simp [g.fv,go_sem]
 refine zaa (zfi a.ring) rfl ?_
 cases hr:a.ring.ok
 ·simp [go_sem,GAuto.vb,hr]
 simp [go_sem]
 refine ⟨fun h1=>by simp [GAuto.vb,show ¬ 1<=a.sy by omega],fun h1=>⟨fun h2=>by simp [GAuto.vb,show ¬ a.sy<=32 by omega],fun h2=>⟨fun h3=>by simp [GAuto.vb,show ¬ 0<=a.st by omega],fun h3=>⟨fun h4=>by simp [GAuto.vb,show ¬ a.st<=64 by omega],fun h4=>⟨fun h5=>⟨fun h6=>⟨fun h7=>by simp [GAuto.vb,show ¬ a.arcs.length<=2048 by omega],fun h7=>?_⟩,fun h6=>by simp [GAuto.vb,h6]⟩,fun h5=>by simp [GAuto.vb,h5]⟩⟩⟩⟩⟩
 refine zaa (zuu a.arcs F.gh [.ref (enc a)] (fun x => !decide (inA x a)) (by omega) fun x hx=>ztx x a (h.arcs x hx)) (by simp [go_sem,zfl,zju]) ?_
 simp [go_sem]
 cases hA:a.arcs.any fun x => !decide (inA x a)
 rotate_left
 ·simp [go_sem]
  simp [GAuto.vb,hA]
 simp [go_sem]
 refine zab (zlp a.ring a.ini h.ini (by omega)) ?_
 cases hB:a.ini.any fun w => !decide (w.chk a.ring)
 rotate_left
 ·simp [go_sem]
  simp [GAuto.vb,hB]
 simp [go_sem]
 refine zab (zlp a.ring a.fin h.fin (by omega)) ?_
 have h8:a.arcs.length<=2048:=by omega
 simp [go_sem]
 simp only [GAuto.vb,hr,h1,h2,h3,h4,h5,h6,h8,hA,hB,decide_true,Bool.true_and,Bool.not_false]
 cases a.fin.any fun w => !decide (w.chk a.ring)<;>rfl
end Go.Ab
namespace Go.Ab
open Enc (enc)
theorem z6u (r:GRing) (l:List GW) (n:Nat) (hn:n<=2000) (hn1:1<=n) (hl:l.length<=1000000) (h:∀ w∈l,w.sm n/\w.chk r) (hz:r.zero.sm n) (cz:r.zero.chk r) :
  Sp P F.cq [enc r,.sl (ens l)] (.pure (.sl (ens (l.map fun w=>r.plus w r.zero)))):=by
 refine Sp.vz c.cq fun _=>?_
 simp [g.cq,go_sem]
 refine zag (S:=fun k:Nat=>mkSt [(2,.ptr 2 0 0 0),(5,.own 1 0 0 k),(8,.p (.sl (ens l))),(9,.p (.int .i64 l.length)),(10,.p (.int .i64 k))] [(2,⟨2,[.p (enc r)]⟩),(1,⟨8,avs ((l.take k).map fun w=>r.plus w r.zero)⟩)]) (I:=fun k=>k<=l.length) (m:=fun k=>l.length - k) 0
  (Weak.nl 5 77 8 rfl (Weak.to [2,5,8,9,10] [((2,0),2),((77,0),1)] (by simp [go_sem]))) (by omega) ?_
 rintro k h1 R hn' hr hx
 have e3:=i64s k (by omega)
 simp [g.re,mkSt,go_sem]
 refine ⟨fun hk=>?_,fun hk=>hx _ _ ?_⟩
 ·refine zae hk ?_
  try simp [go_sem]
  refine zaa (zfy r) rfl ?_
  try simp [go_sem]
  have hw:=h _ (List.getElem_mem hk)
  refine zab (zf5 r l[k] r.zero n hw.1 hz hn hn1 hw.2 cz) ?_
  simp [go_sem,e3]
  have hts:l.take (k+1)=l.take k++[l[k]]:=List.take_succ_eq_append_getElem hk
  refine ⟨⟨by omega,by omega⟩,hn' (k+1) _ (Weak.to [2,5,8,9,10] [((2,0),2),((21,0),1)] ?_) (by omega) (by omega)⟩
  have h2:(l.map fun w=>r.plus w r.zero).take (k+1)=(l.map fun w=>r.plus w r.zero).take k++[r.plus l[k] r.zero]:=by
   rw [List.take_succ_eq_append_getElem (by simpa using hk)]; simp
  simp [mkSt,go_sem]
  rw [h2]; simp [go_sem]
 ·have:k=l.length:=by omega
  subst this
  simp [go_sem]
  rw [List.take_of_length_le (by simp),List.take_of_length_le (by simp)]
end Go.Ab
namespace Go.Ab
open Enc (enc)
theorem zka:∀ (l m:List Int),l.length=m.length->zh4 (List.zipWith cmpI l m)=lexI l m
 | [],[],_=>rfl
 | [],y::ys,h=>by simp at h
 | x::xs,[],h=>by simp at h
 | x::xs,y::ys,h=>by
  have ih:=zka xs ys (by simpa using h)
  simp only [List.zipWith,zh4,lexI,ih,cmpI]
  by_cases h1:x<y
  ·simp [h1]
  ·by_cases h2:y<x
   ·simp [h1,h2]
   ·simp [h1,h2]
theorem zoo (x y:GArc):Sp P F.bz [enc x,enc y] (.pure (.int .i64 (lexI x.key y.key))):=by
 have h:=z08 x y
 rw [show [cmpI x.f y.f,cmpI x.l y.l,cmpI x.t y.t]=List.zipWith cmpI x.key y.key from rfl,zka x.key y.key rfl] at h
 exact h
end Go.Ab
namespace Go.Ab
open Enc (enc)
attribute [local go_sem] zas Opd.slots
section
variable {α : Type} [Enc α]
theorem zqo (hsz:Enc.sz α = 11) (hone:∀ x : α,(enc x).cells.all PV.one=true) (key : α -> List Int) (cf:FuncId) (l:List α) (hl:l.length<=1000000)
  (hc:∀ x∈l,∀ y∈l,∃ n:Int,Sp P cf [enc x,enc y] (.pure (.int .i64 n))/\(n<0 ↔ key x<key y)) :
  SpM P F.i9 [.sl (ens l),.int .i64 0,.int .i64 l.length,.fn cf []] 0 11 (ens (srt key l)) (.pure (.tup [])):=by
 have hs1:∀ x : α,(enc x).sz=11:=fun x=>by rw [Enc.ok,hsz]
 have ew1:IntKind.i64.wrap 1=1:=i64w (by omega) (by omega)
 refine SpM.of_vm c.i9 (by simp) rfl (by simp [go_sem,(za4 l).2.1]) ?_
 simp [g.i9,go_sem]
 refine zag (S:=fun i:Nat=>mkSt [(0,.own PIN 0 0 l.length),(1,.p (.int .i64 0)),(2,.p (.int .i64 l.length)),(3,.p (.fn cf [])),(8,.p (.int .i64 i))] [(PIN,⟨11,avs (zet key l i)⟩)]) (I:=fun i=>1<=i) (m:=fun i=>l.length+1 - i) 1
  (Weak.to [0,1,2,3,8] [((PIN,0),PIN)] (by simp [go_sem,zoa,ew1])) (by omega) ?_
 rintro i h1 R hn hr hx
 simp [g.tc,mkSt,go_sem]
 refine ⟨fun hi=>?_,fun hi=>hx _ _ ?_⟩
 rotate_left
 ·simp [go_sem,zrx hi]
 have e1:=i64s i (by omega)
 have hsi:=za4 (key:=key) (l.take i)
 have hsl:(srt key (l.take i)).length=i:=by rw [hsi.2.1]; simp; omega
 have hend:∀ (L:List α) (v:AV),L=zet key l (i+1)->v=.p (.int .i64 ((i+1:Nat):Int))->R .normal ⟨[(0,.own 999998 0 0 l.length),(1,.p (.int .i64 0)),(2,.p (.int .i64 l.length)),(3,.p (.fn cf [])),(8,v)],[(999998,[some ⟨11,avs L⟩]),(999999,[none])]⟩:=by
  rintro L v rfl rfl
  exact hn (i+1) _ (Weak.to [0,1,2,3,8] [((PIN,0),PIN)] (by simp [go_sem])) (by omega) (by omega)
 refine zag (S:=fun x:List α × Nat=>mkSt [(0,.own PIN 0 0 l.length),(1,.p (.int .i64 0)),(2,.p (.int .i64 l.length)),(3,.p (.fn cf [])),(8,.p (.int .i64 i)),(9,.p (.int .i64 x.2))] [(PIN,⟨11,avs x.1⟩)])
  (I:=fun x=>∃ A B,x.1=A++l[i]::(B++l.drop (i+1))/\x.2=A.length/\A++B=srt key (l.take i)/\∀ b∈B,key l[i]<key b) (m:=fun x=>x.2) (zet key l i,i)
  (Weak.to [0,1,2,3,8,9] [((PIN,0),PIN)] (by simp [go_sem])) ⟨srt key (l.take i),[],by rw [zrw hi]; simp,hsl.symm,by simp,by simp⟩ ?_
 rintro ⟨L,j⟩ ⟨A,B,hL,hj,hAB,hB⟩ R2 hn2 hr2 hx2
 simp only at hL hj
 have hLl:L.length=l.length:=by
  have:=congrArg List.length hAB
  rw [hL]; simp at this ⊢; rw [hsi.2.1] at this; simp at this; omega
 have hLm:∀ y∈L,y∈l:=by
  intro y hy
  rw [hL] at hy
  simp only [List.mem_append,List.mem_cons] at hy
  have hm:∀ y,y∈A++B->y∈l:=fun y hy=>by rw [hAB,hsi.2.2] at hy; exact List.mem_of_mem_take hy
  rcases hy with h|h|h|h
  ·exact hm y (by simp [h])
  ·rw [h]; exact List.getElem_mem hi
  ·exact hm y (by simp [h])
  ·exact List.mem_of_mem_drop h
 have hjl:j<l.length:=by rw [<- hLl,hL,hj]; simp
 rcases List.eq_nil_or_concat A with rfl|⟨A',z,rfl⟩
 ·
  simp at hj
  subst hj
  simp [g.pk,mkSt,go_sem]
  refine hx2 _ _ ?_
  simp [go_sem,e1]
  refine hend L _ ?_ rfl
  rw [zf3 hi,<- hAB,zm1 hB (by simp),hL]; simp
 ·simp only [List.concat_eq_append] at hj hL hAB
  simp at hj
  subst hj
  have hx0:L[A'.length+1]?=some l[i]:=by rw [hL]; simp
  have hz0:L[A'.length]?=some z:=by rw [hL]; simp
  have hzl:z∈l:=hLm z (by rw [hL]; simp)
  obtain ⟨n,hn3,hn4⟩:=hc l[i] (List.getElem_mem hi) z hzl
  have hl0:A'.length+1<l.length:=hjl
  have e3:IntKind.i64.wrap (A'.length:Int)=(A'.length:Nat):=i64w (by omega) (by omega)
  have e4:((A'.length:Int)+1).toNat=A'.length+1:=by omega
  have hgt:(0:Int)<(A'.length:Int)+1:=by omega
  simp [g.pk,mkSt,go_sem,e3,hLl,hl0,show A'.length<l.length by omega,e4,hgt]
  refine ⟨by omega,zb2 hx0 ?_⟩
  refine zb2 hz0 ?_
  refine zaa hn3 rfl ?_
  by_cases hlt:n<0
  ·simp [go_sem,hlt,e3,e4,hgt,hLl,hl0,show A'.length<l.length by omega]
   refine zb2 hz0 ?_
   refine ⟨by omega,zb2 hx0 ?_⟩
   refine ⟨by omega,zb2 hx0 ?_⟩
   refine ⟨hs1 z,?_⟩
   rw [zer]
   refine zb2 (x:=.p (enc z)) (by simp [z3g,hz0]) ?_
   simp only [z65]
   refine ⟨hs1 _,?_⟩
   simp [go_sem,e3]
   refine hn2 ((L.set (A'.length+1) z).set A'.length l[i],A'.length) _ (Weak.to [0,1,2,3,8,9] [((PIN,0),PIN)] (by simp [go_sem])) ⟨A',z::B,?_,rfl,?_,?_⟩ (by simp)
   ·rw [hL]; exact zrv A' B z l[i] _
   ·rw [<- hAB]; simp
   ·intro b hb
    rcases List.mem_cons.1 hb with rfl|hb
    ·exact hn4.1 hlt
    ·exact hB b hb
  ·simp [go_sem,hlt,e3,e4,hgt,hLl,hl0]
   refine hx2 _ _ ?_
   simp [go_sem,e1]
   refine hend L _ ?_ rfl
   have hnk:¬ key l[i]<key z:=fun h=>hlt (hn4.2 h)
   rw [zf3 hi,<- hAB,zm1 hB,hL]
   ·simp
   ·intro a ha
    simp only [List.mem_append,List.mem_singleton] at ha
    rcases ha with ha|rfl
    ·intro hk
     have hs0:=hsi.1
     rw [<- hAB] at hs0
     have:=(List.pairwise_append.1 (List.pairwise_append.1 hs0).1).2.2 a ha z (by simp)
     exact hnk (zi9 hk this)
    ·exact hnk
theorem znz (hsz:Enc.sz α = 12) (hone:∀ x : α,(enc x).cells.all PV.one=true) (key : α -> List Int) (cf:FuncId) (l:List α) (hl:l.length<=1000000)
  (hc:∀ x∈l,∀ y∈l,∃ n:Int,Sp P cf [enc x,enc y] (.pure (.int .i64 n))/\(n<0 ↔ key x<key y)) :
  SpM P F.iy [.sl (ens l),.int .i64 0,.int .i64 l.length,.fn cf []] 0 12 (ens (srt key l)) (.pure (.tup [])):=by
 have hs1:∀ x : α,(enc x).sz=12:=fun x=>by rw [Enc.ok,hsz]
 have ew1:IntKind.i64.wrap 1=1:=i64w (by omega) (by omega)
 refine SpM.of_vm c.iy (by simp) rfl (by simp [go_sem,(za4 l).2.1]) ?_
 simp [g.iy,go_sem]
 refine zag (S:=fun i:Nat=>mkSt [(0,.own PIN 0 0 l.length),(1,.p (.int .i64 0)),(2,.p (.int .i64 l.length)),(3,.p (.fn cf [])),(8,.p (.int .i64 i))] [(PIN,⟨12,avs (zet key l i)⟩)]) (I:=fun i=>1<=i) (m:=fun i=>l.length+1 - i) 1
  (Weak.to [0,1,2,3,8] [((PIN,0),PIN)] (by simp [go_sem,zoa,ew1])) (by omega) ?_
 rintro i h1 R hn hr hx
 simp [g.s7,mkSt,go_sem]
 refine ⟨fun hi=>?_,fun hi=>hx _ _ ?_⟩
 rotate_left
 ·simp [go_sem,zrx hi]
 have e1:=i64s i (by omega)
 have hsi:=za4 (key:=key) (l.take i)
 have hsl:(srt key (l.take i)).length=i:=by rw [hsi.2.1]; simp; omega
 have hend:∀ (L:List α) (v:AV),L=zet key l (i+1)->v=.p (.int .i64 ((i+1:Nat):Int))->R .normal ⟨[(0,.own 999998 0 0 l.length),(1,.p (.int .i64 0)),(2,.p (.int .i64 l.length)),(3,.p (.fn cf [])),(8,v)],[(999998,[some ⟨12,avs L⟩]),(999999,[none])]⟩:=by
  rintro L v rfl rfl
  exact hn (i+1) _ (Weak.to [0,1,2,3,8] [((PIN,0),PIN)] (by simp [go_sem])) (by omega) (by omega)
 refine zag (S:=fun x:List α × Nat=>mkSt [(0,.own PIN 0 0 l.length),(1,.p (.int .i64 0)),(2,.p (.int .i64 l.length)),(3,.p (.fn cf [])),(8,.p (.int .i64 i)),(9,.p (.int .i64 x.2))] [(PIN,⟨12,avs x.1⟩)])
  (I:=fun x=>∃ A B,x.1=A++l[i]::(B++l.drop (i+1))/\x.2=A.length/\A++B=srt key (l.take i)/\∀ b∈B,key l[i]<key b) (m:=fun x=>x.2) (zet key l i,i)
  (Weak.to [0,1,2,3,8,9] [((PIN,0),PIN)] (by simp [go_sem])) ⟨srt key (l.take i),[],by rw [zrw hi]; simp,hsl.symm,by simp,by simp⟩ ?_
 rintro ⟨L,j⟩ ⟨A,B,hL,hj,hAB,hB⟩ R2 hn2 hr2 hx2
 simp only at hL hj
 have hLl:L.length=l.length:=by
  have:=congrArg List.length hAB
  rw [hL]; simp at this ⊢; rw [hsi.2.1] at this; simp at this; omega
 have hLm:∀ y∈L,y∈l:=by
  intro y hy
  rw [hL] at hy
  simp only [List.mem_append,List.mem_cons] at hy
  have hm:∀ y,y∈A++B->y∈l:=fun y hy=>by rw [hAB,hsi.2.2] at hy; exact List.mem_of_mem_take hy
  rcases hy with h|h|h|h
  ·exact hm y (by simp [h])
  ·rw [h]; exact List.getElem_mem hi
  ·exact hm y (by simp [h])
  ·exact List.mem_of_mem_drop h
 have hjl:j<l.length:=by rw [<- hLl,hL,hj]; simp
 rcases List.eq_nil_or_concat A with rfl|⟨A',z,rfl⟩
 ·
  simp at hj
  subst hj
  simp [g.pi,mkSt,go_sem]
  refine hx2 _ _ ?_
  simp [go_sem,e1]
  refine hend L _ ?_ rfl
  rw [zf3 hi,<- hAB,zm1 hB (by simp),hL]; simp
 ·simp only [List.concat_eq_append] at hj hL hAB
  simp at hj
  subst hj
  have hx0:L[A'.length+1]?=some l[i]:=by rw [hL]; simp
  have hz0:L[A'.length]?=some z:=by rw [hL]; simp
  have hzl:z∈l:=hLm z (by rw [hL]; simp)
  obtain ⟨n,hn3,hn4⟩:=hc l[i] (List.getElem_mem hi) z hzl
  have hl0:A'.length+1<l.length:=hjl
  have e3:IntKind.i64.wrap (A'.length:Int)=(A'.length:Nat):=i64w (by omega) (by omega)
  have e4:((A'.length:Int)+1).toNat=A'.length+1:=by omega
  have hgt:(0:Int)<(A'.length:Int)+1:=by omega
  simp [g.pi,mkSt,go_sem,e3,hLl,hl0,show A'.length<l.length by omega,e4,hgt]
  refine ⟨by omega,zb2 hx0 ?_⟩
  refine zb2 hz0 ?_
  refine zaa hn3 rfl ?_
  by_cases hlt:n<0
  ·simp [go_sem,hlt,e3,e4,hgt,hLl,hl0,show A'.length<l.length by omega]
   refine zb2 hz0 ?_
   refine ⟨by omega,zb2 hx0 ?_⟩
   refine ⟨by omega,zb2 hx0 ?_⟩
   refine ⟨hs1 z,?_⟩
   rw [zer]
   refine zb2 (x:=.p (enc z)) (by simp [z3g,hz0]) ?_
   simp only [z65]
   refine ⟨hs1 _,?_⟩
   simp [go_sem,e3]
   refine hn2 ((L.set (A'.length+1) z).set A'.length l[i],A'.length) _ (Weak.to [0,1,2,3,8,9] [((PIN,0),PIN)] (by simp [go_sem])) ⟨A',z::B,?_,rfl,?_,?_⟩ (by simp)
   ·rw [hL]; exact zrv A' B z l[i] _
   ·rw [<- hAB]; simp
   ·intro b hb
    rcases List.mem_cons.1 hb with rfl|hb
    ·exact hn4.1 hlt
    ·exact hB b hb
  ·simp [go_sem,hlt,e3,e4,hgt,hLl,hl0]
   refine hx2 _ _ ?_
   simp [go_sem,e1]
   refine hend L _ ?_ rfl
   have hnk:¬ key l[i]<key z:=fun h=>hlt (hn4.2 h)
   rw [zf3 hi,<- hAB,zm1 hB,hL]
   ·simp
   ·intro a ha
    simp only [List.mem_append,List.mem_singleton] at ha
    rcases ha with ha|rfl
    ·intro hk
     have hs0:=hsi.1
     rw [<- hAB] at hs0
     have:=(List.pairwise_append.1 (List.pairwise_append.1 hs0).1).2.2 a ha z (by simp)
     exact hnk (zi9 hk this)
    ·exact hnk
end
end Go.Ab
namespace Go.Ab
open Enc (enc)
attribute [local go_sem] zas Opd.slots
section
variable {α : Type} [Enc α]
theorem znp (hsz:Enc.sz α = 11) (hone:∀ x : α,(enc x).cells.all PV.one=true) (key : α -> List Int) (cf:FuncId) (l:List α) (hl:l.length<=19)
  (hc:∀ x∈l,∀ y∈l,∃ n:Int,Sp P cf [enc x,enc y] (.pure (.int .i64 n))/\(n<0 ↔ key x<key y)) :
  SpM P F.ml [.sl (ens l),.int .i64 l.length,.fn cf []] 0 11 (ens (srt key l)) (.pure (.tup [])):=by
 refine SpM.of_vm c.ml (by simp) rfl (by simp [go_sem,(za4 l).2.1]) ?_
 simp [g.ml,go_sem]
 refine zgn fun R hn hr hx=>?_
 simp [g.s8,go_sem,show ¬ (20<=(l.length:Int)) by omega]
 refine hx _ _ ?_
 simp [go_sem]
 refine zdz (zqo hsz hone key cf l (by omega) hc) (by simp [go_sem]) rfl rfl (by simp) (by simp [go_sem]) (by simp [go_sem,(za4 l).2.1]) rfl (zda _ _ hsz) (cells_one hone _) (by simp [go_sem]) ?_
 simp [go_sem]
 refine zgn fun R2 hn2 hr2 hx2=>?_
 simp [g.s9,go_sem,show ¬ (20<(l.length:Int)) by omega]
 refine hx2 _ _ ?_
 simp [go_sem]
theorem zpw (hsz:Enc.sz α = 11) (hone:∀ x : α,(enc x).cells.all PV.one=true) (key : α -> List Int) (cf:FuncId) (l:List α) (hl:l.length<=19)
  (hc:∀ x∈l,∀ y∈l,∃ n:Int,Sp P cf [enc x,enc y] (.pure (.int .i64 n))/\(n<0 ↔ key x<key y)) :
  SpM P F.lr [.sl (ens l),.fn cf []] 0 11 (ens (srt key l)) (.pure (.tup [])):=by
 refine SpM.of_vm c.lr (by simp) rfl (by simp [go_sem,(za4 l).2.1]) ?_
 simp [g.lr,go_sem]
 refine zdz (znp hsz hone key cf l hl hc) (by simp [go_sem]) rfl rfl (by simp) (by simp [go_sem]) (by simp [go_sem,(za4 l).2.1]) rfl (zda _ _ hsz) (cells_one hone _) (by simp [go_sem]) ?_
 simp [go_sem]
theorem zlw (hsz:Enc.sz α = 12) (hone:∀ x : α,(enc x).cells.all PV.one=true) (key : α -> List Int) (cf:FuncId) (l:List α) (hl:l.length<=19)
  (hc:∀ x∈l,∀ y∈l,∃ n:Int,Sp P cf [enc x,enc y] (.pure (.int .i64 n))/\(n<0 ↔ key x<key y)) :
  SpM P F.lm [.sl (ens l),.int .i64 l.length,.fn cf []] 0 12 (ens (srt key l)) (.pure (.tup [])):=by
 refine SpM.of_vm c.lm (by simp) rfl (by simp [go_sem,(za4 l).2.1]) ?_
 simp [g.lm,go_sem]
 refine zgn fun R hn hr hx=>?_
 simp [g.se,go_sem,show ¬ (20<=(l.length:Int)) by omega]
 refine hx _ _ ?_
 simp [go_sem]
 refine zdz (znz hsz hone key cf l (by omega) hc) (by simp [go_sem]) rfl rfl (by simp) (by simp [go_sem]) (by simp [go_sem,(za4 l).2.1]) rfl (zda _ _ hsz) (cells_one hone _) (by simp [go_sem]) ?_
 simp [go_sem]
 refine zgn fun R2 hn2 hr2 hx2=>?_
 simp [g.sf,go_sem,show ¬ (20<(l.length:Int)) by omega]
 refine hx2 _ _ ?_
 simp [go_sem]
theorem znq (hsz:Enc.sz α = 12) (hone:∀ x : α,(enc x).cells.all PV.one=true) (key : α -> List Int) (cf:FuncId) (l:List α) (hl:l.length<=19)
  (hc:∀ x∈l,∀ y∈l,∃ n:Int,Sp P cf [enc x,enc y] (.pure (.int .i64 n))/\(n<0 ↔ key x<key y)) :
  SpM P F.ku [.sl (ens l),.fn cf []] 0 12 (ens (srt key l)) (.pure (.tup [])):=by
 refine SpM.of_vm c.ku (by simp) rfl (by simp [go_sem,(za4 l).2.1]) ?_
 simp [g.ku,go_sem]
 refine zdz (zlw hsz hone key cf l hl hc) (by simp [go_sem]) rfl rfl (by simp) (by simp [go_sem]) (by simp [go_sem,(za4 l).2.1]) rfl (zda _ _ hsz) (cells_one hone _) (by simp [go_sem]) ?_
 simp [go_sem]
end
end Go.Ab
