/-
Proofs for the law CountIsFinite, part 33. Conditions: none.
-/
import Derived.Test.YtdkocfjbmbenfaaGreatDoorDP30
import Derived.Test.YtdkocfjbmbenfaaGreatDoorDP12
import Derived.Test.YtdkocfjbmbenfaaGreatDoorDP22
import Derived.Test.YtdkocfjbmbenfaaGreatDoorDP26
import Derived.Test.YtdkocfjbmbenfaaGreatDoorDP31
import Derived.Test.YtdkocfjbmbenfaaGreatDoorDP32
import Derived.Test.YtdkocfjbmbenfaaGreatDoorDP29
import Derived.Test.YtdkocfjbmbenfaaGreatDoorDP24
import Derived.Test.YtdkocfjbmbenfaaGreatDoorDP27
import Derived.Test.YtdkocfjbmbenfaaGreatDoorDP28
set_option maxRecDepth 100000
set_option maxHeartbeats 4000000
set_option linter.all false
namespace Go.Ab
open Enc (enc)
theorem ya2:z2w P F.bz 6:=sortK0
theorem ybk (m n:GMono):Sp P F.ba [enc m,enc n] (.pure (.int .i64 (n.e.cmp m.e))):=by
 refine Sp.vz c.ba fun _=>?_
 simp [g.ba,go_sem]
 refine zaa (zpl m.e n.e) rfl ?_
 simp [go_sem]
theorem z1m:SpM P F.j9 [.sl [],.int .i64 0,.int .i64 0,.fn F.ba []] 0 6 [] (.pure (.tup [])):=by
 refine SpM.of_vm c.j9 (by simp) rfl rfl ?_
 simp [g.j9,go_sem]
 refine zgz fun R hn hr hx=>?_
 simp [g.pj,g.pk,go_sem]
 refine hx _ _ ?_
 simp [go_sem]
theorem z04 (k:Int):SpM P F.gi [.sl [],.int .i64 0,.int .i64 0,.int .i64 k,.fn F.ba []] 0 6 [] (.pure (.tup [])):=by
 refine SpM.of_vm c.gi (by simp) rfl rfl ?_
 simp [g.gi,go_sem]
 refine zgz fun R hn hr hx=>?_
 simp [g.pi,go_sem]
 refine ze8 z1m (by simp [go_sem]) rfl rfl (by simp) rfl rfl rfl rfl rfl (by simp [go_sem]) ?_
 simp [go_sem]
 exact hr _ (by simp [go_sem])
theorem Ex.cmp_lex (x y:Ex):x.cmp y<0 ↔ x.a<y.a\/(x.a=y.a/\(x.b<y.b\/(x.b=y.b/\x.c<y.c))):=by
 unfold Ex.cmp
 repeat' split
 all_goals omega
def sD (x:PV):Prop:=∃ m:GMono,x=enc m
def sX:PV->Ex
 | .agg (.int _ a::.int _ b::.int _ c::_)=>⟨a,b,c⟩
 | _=>⟨0,0,0⟩
theorem z7f (m:GMono):sX (enc m)=m.e:=rfl
theorem Ex.ext' {x y:Ex} (h1:¬ x.cmp y<0) (h2:¬ y.cmp x<0):x=y:=by
 rw [Ex.cmp_lex] at h1 h2
 cases x; cases y; simp only [Ex.mk.injEq] at *; omega
theorem z0h (l l':List GMono) (hl:l.length<=1073741824) (hk:(l.map (·.e)).Nodup) (hp:l'.Perm l) (hs:l'.Pairwise fun x y=>y.e.cmp x.e<0):SpM P F.bz [.sl (ens l),.fn F.ba []] 0 6 (ens l') (.pure (.tup [])):=by
 have hfn:=zir c.bz
 have hgn:=zir c.ba
 cases l with
 | nil =>
  have:l'=[]:=List.Perm.eq_nil hp
  subst this
  refine SpM.of_vm c.bz (by simp) rfl rfl ?_
  simp [g.bz,go_sem]
  refine zaa z4x rfl ?_
  simp [go_sem]
  refine ze8 (z04 0) (by simp [go_sem]) rfl rfl (by simp) rfl rfl rfl rfl rfl (by simp [go_sem]) ?_
  simp [go_sem]
 | cons m l =>
  have hnd:∀ x y:GMono,x∈m::l->y∈m::l->x.e=y.e->x=y:=fun x y hx hy he=>by
   obtain ⟨i,hi⟩:=List.getElem?_of_mem hx
   obtain ⟨j,hj⟩:=List.getElem?_of_mem hy
   obtain ⟨i1,i2⟩:=List.getElem?_eq_some_iff.1 hi
   obtain ⟨j1,j2⟩:=List.getElem?_eq_some_iff.1 hj
   have:i=j:=(List.getElem_inj (h₀ := by simpa using i1) (h₁ := by simpa using j1) hk).1 (by simp only [List.getElem_map,i2,j2,he])
   subst this; rw [<- i2,<- j2]
  refine ya2.spM hfn (by decide) (D:=sD) (c:=fun x y=>(sX y).cmp (sX x)) hgn ?_ ?_ ?_ ?_ (by simp [ens]) (by simp only [zit]; omega) ?_ ?_ ?_
  ·rintro _ _ ⟨x,rfl⟩ ⟨y,rfl⟩; exact ybk x y
  ·rintro _ ⟨x,rfl⟩; rw [Ex.cmp_lex]; omega
  ·rintro _ _ _ ⟨x,rfl⟩ ⟨y,rfl⟩ ⟨z,rfl⟩ h1 h2; simp only [Ex.cmp_lex] at *; omega
  ·rintro _ _ _ ⟨x,rfl⟩ ⟨y,rfl⟩ ⟨z,rfl⟩ h1 h2; simp only [Ex.cmp_lex] at *; omega
  ·intro e he; obtain ⟨x,_,rfl⟩:=List.mem_map.1 he; exact ⟨x,rfl⟩
  ·intro e he; exact zwb _ e he
  ·intro l0 h0 hs0
   have hpe:(ens l').Perm (ens (m::l)):=hp.map _
   refine List.Perm.eq_of_pairwise (le:=fun x y=>¬ (sX x).cmp (sX y)<0) (fun a b ha hb h1 h2=>?_) hs0 ?_ (h0.trans hpe.symm)
   ·obtain ⟨x,hx,rfl⟩:=List.mem_map.1 (h0.mem_iff.1 ha)
    obtain ⟨y,hy,rfl⟩:=List.mem_map.1 (hpe.mem_iff.1 hb)
    have:=hnd x y hx hy (Ex.ext' h1 h2)
    rw [this]
   ·rw [ens,List.pairwise_map]
    refine hs.imp fun {x y} h=>?_
    simp only [z7f,Ex.cmp_lex] at *
    omega
end Go.Ab
namespace Go.Ab
open Enc (enc)
def nzm (p:Ex × GRat):Option GMono:=if p.2.v≠0 then some ⟨p.1,p.2⟩ else none
def nz (L:List (Ex × GRat)):List GMono:=L.filterMap nzm
def nzAt (L:List (Ex × GRat)) (j:Nat):Option GMono:=L[j]?.bind nzm
theorem zge {α β : Type} (f : α -> Option β):∀ (L:List α),(List.range L.length).filterMap (fun j=>L[j]?.bind f)=L.filterMap f
 | []=>rfl
 | x::L=>by
  rw [List.length_cons,List.range_succ_eq_map,List.filterMap_cons]
  have h:(List.map Nat.succ (List.range L.length)).filterMap (fun j=>(x::L)[j]?.bind f)=L.filterMap f:=by
   rw [List.filterMap_map,<- zge f L]
   rfl
  simp only [List.getElem?_cons_zero,Option.bind_some,h,List.filterMap_cons]
theorem z08 (L:List (Ex × GRat)):(List.range L.length).filterMap (nzAt L)=nz L:=zge nzm L
theorem zm1 {j:Nat} {Lf:List Nat} (hj:j∈Lf):∀ {R:List Nat},R.Nodup->(R.filter fun i=>i∉Lf.filter fun i => !decide (i=j)).Perm ((if j∈R then [j] else [])++R.filter fun i=>i∉Lf)
 | [],_=>by simp
 | x::R,h=>by
  obtain ⟨h1,h2⟩:=List.nodup_cons.1 h
  have ih:=zm1 hj h2
  by_cases hx:x=j
  ·subst hx
   have e1:decide (x∉Lf.filter fun i => !decide (i=x))=true:=by simp
   have e2:decide (x∉Lf)=false:=by simp [hj]
   rw [if_neg h1] at ih
   simp only [List.filter_cons,e1,e2,Bool.false_eq_true,if_false,List.mem_cons,true_or,if_true,List.singleton_append,List.nil_append] at ih ⊢
   exact ih.cons x
  ·have hm:(j∈x::R) ↔ j∈R:=by simp [Ne.symm hx]
   simp only [hm]
   by_cases hf:x∈Lf
   ·have e1:decide (x∉Lf.filter fun i => !decide (i=j))=false:=by simp [hf,hx]
    have e2:decide (x∉Lf)=false:=by simp [hf]
    simp only [List.filter_cons,e1,e2,Bool.false_eq_true,if_false]
    exact ih
   ·have e1:decide (x∉Lf.filter fun i => !decide (i=j))=true:=by simp [hf]
    have e2:decide (x∉Lf)=true:=by simp [hf]
    simp only [List.filter_cons,e1,e2,if_true]
    exact (ih.cons x).trans List.perm_middle.symm
theorem z4m {L:List (Ex × GRat)} {Lf:List Nat} {j:Nat} (hj:j∈Lf) (hl:j<L.length) {acc:List GMono} (h:acc.Perm (((List.range L.length).filter fun i=>i∉Lf).filterMap (nzAt L))) :
  (match nzAt L j with|some m=>acc++[m]|none=>acc).Perm (((List.range L.length).filter fun i=>i∉Lf.filter fun i => !decide (i=j)).filterMap (nzAt L)):=by
 have h1:=(zm1 hj (R:=List.range L.length) List.nodup_range).filterMap (nzAt L)
 rw [if_pos (List.mem_range.2 hl),List.singleton_append,List.filterMap_cons] at h1
 refine List.Perm.trans ?_ h1.symm
 cases nzAt L j with
 | none=>exact h
 | some m=>exact (List.perm_append_comm (l₁ := acc) (l₂ := [m])).trans (h.cons m)
theorem zs2 {L:List (Ex × GRat)} (h:(L.map (·.1)).Nodup):((nz L).map (·.e)).Nodup:=by
 have hsub:∀ L:List (Ex × GRat),((nz L).map (·.e)).Sublist (L.map (·.1)):=by
  intro L
  induction L with
  | nil=>exact List.Sublist.refl _
  | cons p L ih =>
   simp only [nz,List.filterMap_cons,nzm] at ih ⊢
   split
   ·rename_i hn
    exact ih.cons _
   ·rename_i m hm
    split at hm
    ·cases hm; exact ih.cons_cons _
    ·cases hm
 exact (hsub L).nodup h
def lsS (r':Nat) (acc:List GMono):St:=mkSt [(3,.own 1 0 0 acc.length),(7,.p (.itv r'))] [(1,⟨6,avs acc⟩)]
def lsI (r' r:Nat) (L:List (Ex × GRat)) (n:Nat) (s:St) (B:Option FA):Prop:=∃ acc Lf cur,Weak s (lsS r' acc)/\B=some (itFA r' r (mks L) (mvs L) Lf cur)/\Lf.length=n/\acc.length+Lf.length<=L.length/\acc.Perm (((List.range L.length).filter fun i=>i∉Lf).filterMap (nzAt L))
def lsE (r':Nat) (L:List (Ex × GRat)) (ex:Exit) (s:St):Prop:=ex=.exit 0/\∃ acc,Weak s (lsS r' acc)/\acc.Perm (nz L)/\acc.length<=L.length
theorem zug (r:Nat) (L:List (Ex × GRat)) (hL:∀ p∈L,p.2.sm 4194304) (hkn:(L.map (·.1)).Nodup) (hlen:L.length<=1000000) (l':List GMono) (hp:l'.Perm (nz L)) (hs:l'.Pairwise fun x y=>y.e.cmp x.e<0) :
  Sp P F.ge [.mp r (mks L) (mvs L)] (.fresh 6 (ens l')):=by
 refine Sp.of_mr c.ge (by simp) ?_
 unfold g.ge
 generalize hP:(fun ex s (_:Option FA)=>retP [(2,none)] (RV.fresh 6 (ens l')) ex s)=Post
 refine MR.gseq ?_
 simp [go_sem]
 refine MR.gseq ?_
 simp [go_sem]
 refine MR.gseq' (MR.gseq' (MR.greg (zn1 1 [[0],[6]] ?_)))
 simp [go_sem]
 refine MIns.cons (zxt ty.map (by rfl) fun r'=>?_)
 refine zff [] ?_
 simp [go_sem]
 refine MR.gblk (MR.mono (MR.gloop (Post:=fun ex s B=>lsE r' L ex s) (I:=lsI r' r L) L.length ?_ ?_) ?_)
 ·refine ⟨[],List.range L.length,none,?_,by simp [mks],by simp,by simp,?_⟩
  ·exact Weak.nl 3 1 6 rfl (Weak.to [3,7] [((1,0),1)] (by simp [lsS,mkSt,go_sem]))
  ·have:(List.range L.length).filter (fun i=>i∉List.range L.length)=[]:=by
    rw [List.filter_eq_nil_iff]; intro a ha; simp at ha ⊢; exact ha
   rw [this]; exact List.Perm.refl _
 ·rintro n s B ⟨acc,Lf,cur,hw,rfl,hn,hac,hperm⟩
  refine MR.weak hw ?_
  unfold g.ph
  refine MR.gseq' (MR.greg (MIns.cons (z1d rfl (fun h0=>?_) (fun j hj kv vv hkv hvv=>?_))))
  ·refine zff [[8]] ?_
   simp [go_sem]
   refine MR.gseq' (MR.gcond (t:=false) rfl (fun h=>by cases h) (fun _=>MR.gext ⟨fun h=>(by cases h),fun _=>⟨fun h=>(by cases h),fun _=>⟨rfl,acc,?_,?_,by omega⟩⟩⟩))
   ·exact Weak.to [3,7] [((1,0),1)] (by simp [lsS,mkSt,go_sem])
   ·subst h0
    have e:(List.range L.length).filter (fun i=>decide (i∉([]:List Nat)))=List.range L.length:=List.filter_eq_self.2 (by simp)
    rw [e,z08] at hperm; exact hperm
  ·obtain ⟨p,hpj,rfl,rfl⟩:∃ p:Ex × GRat,L[j]?=some p/\kv=enc p.1/\vv=enc p.2:=by
    simp only [mks,List.getElem?_map,Option.map_eq_some_iff] at hkv
    obtain ⟨p,h1,rfl⟩:=hkv
    simp only [mvs,List.getElem?_map,h1,Option.map_some,Option.some.injEq] at hvv
    exact ⟨p,h1,rfl,hvv.symm⟩
   have hjl:=(List.getElem?_eq_some_iff.1 hpj).1
   refine zff [[8]] ?_
   simp [go_sem]
   refine MR.gseq' (MR.gcond (t:=true) rfl (fun _=>MR.gnop ⟨fun _=>?_,fun h=>absurd rfl h⟩) (fun h=>by cases h))
   refine MR.gblk (MR.gseq' (MR.greg (MIns.cons (zxu rfl hkv hvv ?_))))
   refine zff [[],[10],[],[],[11],[12]] ?_
   simp [lsS,mkSt,go_sem]
   refine MR.of_vm ?_
   simp [go_sem]
   refine zaa (zhp p.2 (hL p (List.mem_of_getElem? hpj))) rfl ?_
   have hstep:=z4m hj hjl hperm
   have hlt:(Lf.filter fun i => !decide (i=j)).length<Lf.length:=by
    refine Nat.lt_of_le_of_ne (List.length_filter_le _ _) fun h=>?_
    have:=(List.length_filter_eq_length_iff.1 h) j hj
    simp at this
   by_cases hz:p.2.v=0
   ·have hsg:sgnR p.2.v=0:=(zkc _).2 hz
    simp [go_sem,hsg]
    have hnz:nzAt L j=none:=by simp [nzAt,hpj,nzm,hz]
    rw [hnz] at hstep
    exact ⟨fun _=>⟨_,by rw [<- hn]; exact hlt,acc,_,_,Weak.to [3,7] [((1,0),1)] (by simp [lsS,mkSt,go_sem]),rfl,rfl,by omega,hstep⟩,fun h=>absurd rfl h⟩
   ·have hsg:sgnR p.2.v≠0:=fun h=>hz ((zkc _).1 h)
    simp [go_sem,hsg]
    have hnz:nzAt L j=some ⟨p.1,p.2⟩:=by simp [nzAt,hpj,nzm,hz]
    rw [hnz] at hstep
    exact ⟨by omega,fun _=>⟨_,by rw [<- hn]; exact hlt,acc++[⟨p.1,p.2⟩],_,_,Weak.to [3,7] [((21,0),1)] (by simp [lsS,mkSt,go_sem]),rfl,rfl,by simp; omega,hstep⟩,fun h=>absurd rfl h⟩
 ·rintro ex s B ⟨rfl,acc,hw,hperm,hac⟩
  refine ⟨fun _=>?_,fun h=>absurd rfl h⟩
  refine MR.weak hw (MR.of_vm ?_)
  simp [lsS,mkSt,go_sem]
  subst hP
  have hkn':(acc.map (·.e)).Nodup:=(hperm.map _).nodup_iff.2 (zs2 hkn)
  have hll:l'.length=acc.length:=(hp.trans hperm.symm).length_eq
  refine ze8 (z0h acc l' (by omega) hkn' (hp.trans hperm.symm) hs) (by simp [go_sem]) rfl rfl (by simp) (by simp [go_sem]) (by simp [go_sem,hll]) rfl (zgk _ _ rfl) (cells_one (fun _=>rfl) _) (by simp [go_sem]) ?_
  simp [go_sem,hll]
end Go.Ab
namespace Go.Ab
open Enc (enc)
theorem zR_v:zR.v=0:=zp1
structure MInv (ms:List GMono) (L:List (Ex × GRat)):Prop where
 tot:∀ e,(zg9 e L).v=pc ms e
 val:∀ e c,mget e L=some c->c=rto (pc ms e)/\∃ m∈ms,m.e=e
 nod:(L.map (·.1)).Nodup
 len:L.length<=ms.length
theorem zs7 {κ α : Type} [DecidableEq κ] (e : κ) (c : α):∀ L:List (κ × α),(mset e c L).length<=L.length+1
 | []=>by simp [mset]
 | (e',c')::L=>by
  have:=zs7 e c L
  simp only [mset]; split<;>simp<;>omega
theorem zku {κ α : Type} [DecidableEq κ] {e : κ} {c : α}:∀ {L:List (κ × α)},(L.map (·.1)).Nodup->(e,c)∈L->mget e L=some c
 | (e',c')::L,hn,h=>by
  obtain ⟨h1,h2⟩:=List.nodup_cons.1 hn
  simp only [mget]
  rcases List.mem_cons.1 h with h|h
  ·cases h; simp
  ·have:e'≠e:=by rintro rfl; exact h1 (List.mem_map.2 ⟨_,h,rfl⟩)
   rw [if_neg this]; exact zku h2 h
theorem MInv.step {ms:List GMono} {L:List (Ex × GRat)} (h:MInv ms L) (m:GMono):MInv (ms++[m]) (madd m L):=by
 have hpc:∀ e,pc (ms++[m]) e=pc ms e+if m.e=e then m.coef.v else 0:=fun e=>by rw [zkm]; simp [pc,Rat.add_zero]
 refine ⟨fun e=>?_,fun e c hc=>?_,zuw _ _ h.nod,?_⟩
 ·rw [hpc]
  simp only [zg9,madd,zkv]
  split
  ·rename_i he; subst he
   simp only [Option.getD_some,zg3]
   have:=h.tot m.e; simp only [zg9] at this; rw [this]
  ·rw [Rat.add_zero]; exact h.tot e
 ·simp only [madd,zkv] at hc
  rw [hpc]
  split at hc
  ·rename_i he; subst he
   cases hc
   exact ⟨by rw [h.tot,if_pos rfl],m,by simp,rfl⟩
  ·rename_i he
   obtain ⟨q1,x,q2,q3⟩:=h.val e c hc
   exact ⟨by rw [if_neg he,Rat.add_zero]; exact q1,x,by simp [q2],q3⟩
 ·have:=zs7 m.e (rto ((zg9 m.e L).v+m.coef.v)) L
  have:=h.len
  simp only [madd,List.length_append,List.length_singleton]; omega
def zky (ms:List GMono) (L:List (Ex × GRat)):List (Ex × GRat):=ms.foldl (fun L m=>madd m L) L
theorem MInv.fold:∀ (ms':List GMono) {ms:List GMono} {L:List (Ex × GRat)},MInv ms L->MInv (ms++ms') (zky ms' L)
 | [],ms,L,h=>by simpa [zky] using h
 | m::ms',ms,L,h=>by
  have:=MInv.fold ms' (h.step m)
  simpa [zky] using this
theorem MInv.nil:MInv [] []:=⟨fun e=>zR_v,fun e c h=>(by cases h),by simp,by simp⟩
theorem minv (ms:List GMono):MInv ms (zky ms []):=by simpa using MInv.fold ms MInv.nil
theorem MInv.mem {ms:List GMono} {L:List (Ex × GRat)} (h:MInv ms L) {p:Ex × GRat} (hp:p∈L):p.2=rto (pc ms p.1)/\∃ m∈ms,m.e=p.1:=h.val p.1 p.2 (zku h.nod hp)
theorem z4g {p q:List GMono} (h:p.Perm q) (e:Ex):pc p e=pc q e:=by
 induction h with
 | nil=>rfl
 | cons x _ ih=>simp only [pc,ih]
 | swap x y l=>simp only [pc]; rw [<- Rat.add_assoc,<- Rat.add_assoc,Rat.add_comm (if y.e=e then y.coef.v else 0)]
 | trans _ _ ih1 ih2=>rw [ih1,ih2]
theorem zxo {L:List (Ex × GRat)} {m:GMono} (h:m∈nz L):(m.e,m.coef)∈L/\m.coef.v≠0:=by
 obtain ⟨p,hp,h⟩:=List.mem_filterMap.1 h
 unfold nzm at h
 split at h
 ·rename_i hz; cases h; exact ⟨hp,hz⟩
 ·cases h
theorem z7u:∀ {L:List (Ex × GRat)} (e:Ex),(L.map (·.1)).Nodup->pc (nz L) e=(zg9 e L).v
 | [],e,_=>by simp [nz,pc,zg9,mget,zR_v]
 | (e1,c1)::L,e,h=>by
  obtain ⟨h1,h2⟩:=List.nodup_cons.1 h
  have ih:=z7u (L:=L) e h2
  have hcons:nz ((e1,c1)::L)=if c1.v≠0 then ⟨e1,c1⟩::nz L else nz L:=by
   simp only [nz,List.filterMap_cons,nzm]; split<;>split<;>simp_all
  rw [hcons]
  simp only [zg9,mget]
  by_cases he:e1=e
  ·subst he
   have hz:pc (nz L) e1=0:=zkl fun m hm hme=>h1 (List.mem_map.2 ⟨_,(zxo hm).1,hme⟩)
   split
   ·simp [pc,hz,Rat.add_zero]
   ·rename_i hc; simp at hc; simp [hz,hc]
  ·simp only [if_neg he]
   simp only [zg9] at ih
   split
   ·simp [pc,he,ih,Rat.zero_add]
   ·exact ih
theorem zxc {p q:List GMono} (hp:PVal p) (hq:PVal q) {L:List (Ex × GRat)} (h:MInv (p++q) L):(padd p q).Perm (nz L):=by
 have hok:∀ m∈p++q,m.ok=true:=fun m hm=>by
  rcases List.mem_append.1 hm with h|h
  ·exact (zan.1 hp).1 m h
  ·exact (zan.1 hq).1 m h
 have hnok:∀ m∈nz L,m.ok=true:=fun m hm=>by
  obtain ⟨h1,h2⟩:=zxo hm
  obtain ⟨h3,x,h4,h5⟩:=h.mem h1
  simp only at h3 h5
  refine GMono.ok_iff.2 ⟨?_,by rw [h3]; exact zd5 _,h2⟩
  rw [<- h5]; exact (GMono.ok_iff.1 (hok x h4)).1
 let le:GMono->GMono->Bool:=fun a b=>decide (b.e.code<=a.e.code)
 have hperm:((nz L).mergeSort le).Perm (nz L):=List.mergeSort_perm _ _
 have hsort:((nz L).mergeSort le).Pairwise fun a b=>le a b=true:=List.pairwise_mergeSort (fun a b c h1 h2=>by simp only [le,decide_eq_true_eq] at *; omega) (fun a b=>by simp only [le,Bool.or_eq_true,decide_eq_true_eq]; omega) _
 have hnd:(((nz L).mergeSort le).map (·.e)).Nodup:=(hperm.map _).nodup_iff.2 (zs2 h.nod)
 have hval:PVal ((nz L).mergeSort le):=by
  refine zan.2 ⟨fun m hm=>hnok m (hperm.mem_iff.1 hm),?_⟩
  have h2:((nz L).mergeSort le).Pairwise fun a b=>a.e≠b.e:=List.pairwise_map.1 hnd
  refine (hsort.and h2).imp_of_mem fun {a b} ha hb hab=>?_
  have oa:=(GMono.ok_iff.1 (hnok a (hperm.mem_iff.1 ha))).1
  have ob:=(GMono.ok_iff.1 (hnok b (hperm.mem_iff.1 hb))).1
  have h3:b.e.code<=a.e.code:=by simpa [le] using hab.1
  have h4:b.e.code≠a.e.code:=fun he=>hab.2 ((Ex.code_inj ob oa).1 he).symm
  omega
 have:padd p q=(nz L).mergeSort le:=by
  refine znp (zc5 q hp) hval fun e=>?_
  rw [zf5 p (zan.1 hq).1,z4g hperm,z7u e h.nod,h.tot,zkm]
 rw [this]; exact hperm
theorem zq7 {p q:List GMono} (hp:PVal p):(padd p q).Pairwise fun x y=>y.e.cmp x.e<0:=by
 have hv:=zan.1 (zc5 q hp)
 refine hv.2.imp_of_mem fun {a b} ha hb h=>?_
 exact (Ex.cmp_neg (GMono.ok_iff.1 (hv.1 b hb)).1 (GMono.ok_iff.1 (hv.1 a ha)).1).2 h
theorem MInv.sm {p q:List GMono} {n:Nat} (hp:PVal p) (hq:PVal q) (sp:psm p n) (sq:psm q n) (hn:1<=n) {L:List (Ex × GRat)} (h:MInv (p++q) L):∀ x∈L,x.1.ok=true/\x.2.sm (n+n+1):=by
 intro x hx
 obtain ⟨h1,m,h2,h3⟩:=h.mem hx
 refine ⟨?_,?_⟩
 ·rw [<- h3]
  rcases List.mem_append.1 h2 with h|h
  ·exact (GMono.ok_iff.1 ((zan.1 hp).1 m h)).1
  ·exact (GMono.ok_iff.1 ((zan.1 hq).1 m h)).1
 ·have ga:∀ {p:List GMono},PVal p->psm p n->∃ a:GRat,a.sm n/\a.v=pc p x.1:=fun {p} hv sp=>by
   rcases znt hv x.1 with h|⟨y,hy,h⟩
   ·exact ⟨gr0,zga n,by rw [zp1,h]⟩
   ·exact ⟨y.coef,sp y hy,h.symm⟩
  obtain ⟨a,a1,a2⟩:=ga hp sp
  obtain ⟨b,b1,b2⟩:=ga hq sq
  rw [h1,zkm,<- a2,<- b2]
  exact zid a1 b1 hn hn
end Go.Ab
namespace Go.Ab
open Enc (enc)
def paS (r:Nat) (ms:List GMono) (k:Nat):St:=mkSt [(5,.p (.mapv r)),(14,.own 1 0 0 ms.length),(15,.p (.int .i64 ms.length)),(16,.p (.int .i64 k))] [(1,⟨6,avs ms⟩)]
def paB (r:Nat) (ms:List GMono):Option FA:=some (zha r (mks (zky ms [])) (mvs (zky ms [])))
def paI (r:Nat) (ms:List GMono) (n:Nat) (s:St) (B:Option FA):Prop:=∃ k,k<=ms.length/\n=ms.length - k/\Weak s (paS r ms k)/\B=paB r (ms.take k)
def paE (r:Nat) (ms:List GMono) (ex:Exit) (s:St) (B:Option FA):Prop:=ex=.exit 0/\Weak s (paS r ms ms.length)/\B=paB r ms
theorem zuz (ms:List GMono) (m:GMono):zky (ms++[m]) []=madd m (zky ms []):=by simp [zky]
def paR:GC:=.seq (.reg [⟨some 27,.mv (.t 5),none⟩,⟨some 28,.call F.ge [.t 27],none⟩,⟨some 4,.mv (.t 28),none⟩] [[5,14,15,16],[27],[28]])
 (.ret)
theorem zxd (r:Nat) (p q:List GMono) (n:Nat) (vp:PVal p) (vq:PVal q) (sp:psm p n) (sq:psm q n) (hn1:1<=n) (hn:n<=400000) (lp:p.length<=100000) (lq:q.length<=100000) {s:St} (hw:Weak s (paS r (p++q) 0)) :
  MR P 29 (GC.blk 0 (.loop g.m8)).er s (paB r []) fun ex s B=>(ex=.normal->MR P 29 paR.er s B fun ex s _=>retP [(4,none)] (RV.pure (.sl (ens (padd p q)))) ex s)/\(ex ≠ .normal->retP [(4,none)] (RV.pure (.sl (ens (padd p q)))) ex s):=by
 have hlen:(p++q).length<=200000:=by simp; omega
 have hokm:∀ m∈p++q,m.e.ok=true/\m.coef.sm n:=fun m hm=>by
  rcases List.mem_append.1 hm with h|h
  ·exact ⟨(GMono.ok_iff.1 ((zan.1 vp).1 m h)).1,sp m h⟩
  ·exact ⟨(GMono.ok_iff.1 ((zan.1 vq).1 m h)).1,sq m h⟩
 have hinv:∀ k,∀ x∈zky ((p++q).take k) [],x.1.ok=true/\x.2.sm 1048576:=fun k x hx=>by
  have h:=minv ((p++q).take k)
  have e:(p++q).take k=p.take k++q.take (k - p.length):=List.take_append
  rw [e] at h hx
  obtain ⟨h1,h2⟩:=h.sm (vp.take k) (vq.take _) (fun m hm=>sp m (List.mem_of_mem_take hm)) (fun m hm=>sq m (List.mem_of_mem_take hm)) hn1 x hx
  exact ⟨h1,h2.mono (by omega)⟩
 have hfin:=minv (p++q)
 have hsm:=hinv (p++q).length
 rw [List.take_length] at hsm
 have hperm:=zxc vp vq hfin
 have hsort:=zq7 (p:=p) (q:=q) vp
 generalize hms:p++q=ms at *
 refine MR.gblk (MR.mono (MR.gloop (Post:=paE r ms) (I:=paI r ms) ms.length ⟨0,by omega,by omega,hw,rfl⟩ ?_) ?_)
 ·rintro n0 s B ⟨k,hk,rfl,hw,rfl⟩
  refine MR.weak hw ?_
  unfold g.m8
  refine MR.gseq ?_
  simp [paS,mkSt,go_sem]
  by_cases hlt:k<ms.length
  ·refine MR.gseq' (MR.gcond (t:=true) (by simp [go_sem,hlt]) (fun _=>MR.gnop ⟨fun _=>?_,fun h=>absurd rfl h⟩) (fun h=>by cases h))
   simp [go_sem]
   refine MR.gseq' (MR.gblk (MR.gseq ?_))
   simp [go_sem]
   refine ⟨hlt,zae hlt ?_⟩
   have hmk:=hokm ms[k] (List.getElem_mem hlt)
   refine MR.greg (zn1 5 [[],[],[21],[7],[23]] ?_)
   simp [go_sem]
   refine MIns.cons (zxw (args:=[enc ms[k].e,enc ms[k].coef]) (zwd ms[k] _ hmk.1 (hmk.2.mono (by omega)) (hinv k)) (by simp [go_sem]) (zs4 _) (zs3 _) ?_)
   refine zff [[20,22,24,25]] ?_
   simp [go_sem]
   refine ⟨fun _=>MR.of_vm ?_,fun h=>absurd rfl h⟩
   have e3:=i64s k (by omega)
   simp [go_sem,e3]
   refine ⟨_,?_,k+1,by omega,rfl,Weak.to [5,14,15,16] [((1,0),1)] (by simp [paS,mkSt,go_sem]),?_⟩
   ·omega
   ·simp only [paB]; rw [List.take_succ_eq_append_getElem hlt,zuz]
  ·have hk':k=ms.length:=by omega
   refine MR.gseq' (MR.gcond (t:=false) (by simp [go_sem,hlt]) (fun h=>by cases h) (fun _=>MR.gext ⟨fun h=>(by cases h),fun _=>⟨fun h=>(by cases h),fun _=>⟨rfl,?_,?_⟩⟩⟩))
   ·exact Weak.to [5,14,15,16] [((1,0),1)] (by simp [paS,mkSt,go_sem,hk'])
   ·rw [hk',List.take_length]
 ·rintro ex s B ⟨rfl,hw,rfl⟩
  refine ⟨fun _=>?_,fun h=>absurd rfl h⟩
  refine MR.weak hw (MR.freeze (t:=5) rfl ?_)
  refine MR.of_vm ?_
  simp [paR,paS,mkSt,go_sem]
  have hpl:=zsx p q
  refine zd9 (zug r (zky ms []) (fun x hx=>(hsm x hx).2.mono (by omega)) hfin.nod (by have:=hfin.len; omega) (padd p q) hperm hsort) (by simp [go_sem]) ⟨zgk _ _ rfl,by decide,by simp [ens,LIM]; omega⟩ _ rfl ?_
  simp [go_sem,killAll]
theorem zum (p q:List GMono) (n:Nat) (sp:psm p n) (sq:psm q n) (hn1:1<=n) (hn:n<=400000) (lp:p.length<=100000) (lq:q.length<=100000) :
  Sp P F.jz [.sl (ens p),.sl (ens q)] (.pure (.sl (ens (padd (pv p) (pv q))))):=by
 refine Sp.of_mr c.jz (by simp) ?_
 unfold g.jz
 generalize hP:(fun ex s (_:Option FA)=>retP [(4,none)] (RV.pure (.sl (ens (padd (pv p) (pv q))))) ex s)=Post
 have vp:=z2z p
 have vq:=z2z q
 have s1:=z20 sp
 have s2:=z20 sq
 have l1:=z21 p
 have l2:=z21 q
 refine MR.gseq ?_
 simp [go_sem]
 refine MR.gseq' (MR.greg (MIns.cons (zrg fun r=>?_)))
 refine zff [[8]] ?_
 simp [go_sem]
 refine MR.gseq' (MR.gseq ?_)
 simp [go_sem]
 refine zaa (zpi p (sp.mono (by omega)) (by omega)) rfl ?_
 simp [go_sem]
 refine zaa (zpi q (sq.mono (by omega)) (by omega)) rfl ?_
 simp [go_sem]
 refine zd9 (zzg (pv p) (pv q) (by omega)) (by simp [go_sem]) ⟨zgk _ _ rfl,by decide,by simp [ens,LIM]; omega⟩ _ rfl ?_
 cases hfl:(ens (pv p++pv q)).all PV.flat
 ·simp [go_sem,killAll]
  subst hP
  refine zxd r (pv p) (pv q) n vp vq s1 s2 hn1 hn (by omega) (by omega) ?_
  exact Weak.to [5,14,15,16] [((14,0),1)] (by simp [paS,mkSt,go_sem])
 ·simp [go_sem]
  subst hP
  refine zxd r (pv p) (pv q) n vp vq s1 s2 hn1 hn (by omega) (by omega) ?_
  exact Weak.to [5,14,15,16] [((14,0),1)] (by simp [paS,mkSt,go_sem])
end Go.Ab
namespace Go.Ab
open Enc (enc)
attribute [local go_sem] zal Opd.slots
theorem GRat.sm.monoR {x:GRat} {m n:Nat} (h:x.sm m) (k:m<=n):x.sm n:=⟨Nat.le_trans h.1 k,Nat.le_trans h.2 k⟩
theorem psm.monoR {p:List GMono} {m n:Nat} (h:psm p m) (k:m<=n):psm p n:=fun x hx=>(h x hx).monoR k
theorem GW.sm.mono {m n:Nat} (k:m<=n):∀ w:GW,w.sm m->w.sm n:=by
 refine GW.sm.ind fun v hv ih=>?_
 cases v with
 | mk q c i s p ps=>exact .mk (hv.q.monoR k) (hv.poly.monoR k) (Nat.le_trans hv.len k) (Nat.le_trans hv.plen k) ih
theorem GW.sm.one (k:Int) {n:Nat} {q:GRat} {c:Int} {i:Bool} {s:UInt64} {p:List GMono} (hq:q.sm n) (hp:psm p n) (hl:p.length<=n):(GW.mk q c i s p []).sm n:=.mk hq hp hl (by simp) (by simp)
theorem znq (n:Nat):psm [] n:=by intro m hm; simp at hm
theorem zsu {k:Int} {v w:GW} {m n:Nat} (hv:v.sm m) (hw:w.sm n) (cv:v.chk ⟨k,[]⟩) (cw:w.chk ⟨k,[]⟩) (hm:1<=m) (hn:1<=n):(za4 k v w).sm (m+n+1):=by
 unfold za4
 have hv':=hv.mono (show m<=m+n+1 by omega)
 have hw':=hw.mono (show n<=m+n+1 by omega)
 split
 ·exact .one 0 (zid hv.q hw.q hm hn) (znq _) (by simp)
 ·split
  ·split
   ·exact hw'
   ·exact hv'
  ·split
   ·split
    ·exact hw'
    ·exact hv'
   ·split
    ·exact .one 0 (zga _) (znq _) (by simp)
    ·exact .one 0 (zga _) (z4h (z84 cv) (z84 cw) hv.poly hw.poly hm hn) (by have:=zsx v.poly w.poly; have:=hv.len; have:=hw.len; omega)
def zf3:List Int->List GW->List GW->List GW
 | k::ks,v::vs,w::ws=>za4 k v w::zf3 ks vs ws
 | _,_,_=>[]
def GRing.plus (r:GRing) (v w:GW):GW:=if r.kind=6 then .mk gr0 0 false 0 [] (zf3 r.parts v.parts w.parts) else za4 r.kind v w
theorem zbn:∀ {ks:List Int} {vs ws:List GW},vs.length=ks.length->ws.length=ks.length->(zf3 ks vs ws).length=ks.length
 | [],vs,ws,_,_=>by simp [zf3]
 | k::ks,[],ws,h,_=>by simp at h
 | k::ks,v::vs,[],_,h=>by simp at h
 | k::ks,v::vs,w::ws,h1,h2=>by simp [zf3,zbn (ks:=ks) (vs:=vs) (ws:=ws) (by simpa using h1) (by simpa using h2)]
theorem zb2:∀ {ks:List Int} {vs ws:List GW} {i:Nat} (h:i<ks.length) (h1:i<vs.length) (h2:i<ws.length) (h3:i<(zf3 ks vs ws).length),(zf3 ks vs ws)[i]=za4 ks[i] vs[i] ws[i]
 | k::ks,v::vs,w::ws,0,_,_,_,_=>by simp [zf3]
 | k::ks,v::vs,w::ws,i+1,h,h1,h2,h3=>by
  simp only [zf3,List.getElem_cons_succ]
  exact zb2 (by simpa using h) (by simpa using h1) (by simpa using h2) (by simpa [zf3] using h3)
end Go.Ab
namespace Go.Ab
open Enc (enc)
theorem zw5 (v w:GW) (n:Nat) (hv:v.sm n) (hw:w.sm n) (hn:n<=400000) (hn1:1<=n) (pv':PVal v.poly) (pw:PVal w.poly):Sp P F.dt [enc v,enc w] (.pure (enc (za4 5 v w))):=by
 have h1:v.poly.length<=100000:=by have:=zss pv'; omega
 have h2:w.poly.length<=100000:=by have:=zss pw; omega
 have k:=zum v.poly w.poly n hv.poly hw.poly hn1 hn h1 h2
 rw [z7t pv',z7t pw] at k
 refine Sp.vz c.dt fun _=>?_
 simp [g.dt,go_sem]
 refine zaa k rfl ?_
 simp [go_sem,za4,gr0]
theorem zsv (k:Int) (hk:1<=k/\k<=5) (v w:GW) (n:Nat) (hv:v.sm n) (hw:w.sm n) (hn:n<=400000) (hn1:1<=n) (sv:v.si k) (sw:w.si k):Sp P (kF3 k) (enc v::enc w::kC3 k) (.pure (enc (za4 k v w))):=by
 have:k=1\/k=2\/k=3\/k=4\/k=5:=by omega
 have hv':=hv.mono (show n<=1048576 by omega)
 have hw':=hw.mono (show n<=1048576 by omega)
 rcases this with rfl|rfl|rfl|rfl|rfl
 ·exact z0v v w hv' hw'
 ·exact z2g v w sv sw
 ·exact z1t v w hv' hw' sv sw
 ·exact z0j v w
 ·exact zw5 v w n hv hw (by omega) hn1 (sv.2.2.2.2.2.2.2.2 rfl) (sw.2.2.2.2.2.2.2.2 rfl)
theorem z4a (r:GRing) (v w:GW) (n:Nat) (hv:v.sm n) (hw:w.sm n) (hn:n<=400000) (hn1:1<=n) (cv:v.chk r) (cw:w.chk r) (h6:r.kind≠6):Sp P F.am [enc r,enc v,enc w] (.pure (enc (za4 r.kind v w))):=by
 have hr0:=cv.1
 have hk:=GRing.ok_kind hr0 h6
 have t1:v.tk r=v:=if_pos cv
 have t2:w.tk r=w:=if_pos cw
 have k1:=zhj r v (hv.mono (by omega))
 have k2:=zhj r w (hw.mono (by omega))
 rw [t1] at k1; rw [t2] at k2
 refine Sp.vz c.am fun _=>?_
 simp [g.am,go_sem]
 refine zaa (zft r) rfl ?_
 simp [hr0,go_sem]
 refine zaf k1 ?_
 simp [go_sem]
 refine zaf k2 ?_
 simp [go_sem,h6]
 obtain ⟨f5,f6,f7,f8,c5,c8,hA⟩:=zfj r.kind ⟨hk.1,hk.2.1⟩
 refine zaa (zk3 r.kind ⟨hk.1,hk.2.1⟩) rfl ?_
 simp [hA,go_sem]
 refine zaa (zsv r.kind ⟨hk.1,hk.2.1⟩ v w n hv hw hn hn1 (cv.2.1 h6) (cw.2.1 h6)) (zbz (by simp [go_sem]) (zbz (by simp [go_sem]) (zfg _ _))) ?_
 simp [go_sem]
end Go.Ab
namespace Go.Ab
open Enc (enc)
theorem zw9 (k:Int) (hk:1<=k/\k<=5) (v w:GW) (i n:Nat) (iv:i<v.parts.length) (iw:i<w.parts.length) (hi:i<=3) (hv:v.parts[i].sm n) (hw:w.parts[i].sm n) (hn:n<=400000) (hn1:1<=n) (sv:v.parts[i].si k) (sw:w.parts[i].si k) :
  Sp P F.ft [zlx k,.int .i64 i,.ref (enc v),.ref (enc w)] (.pure (enc (za4 k v.parts[i] w.parts[i]))):=by
 obtain ⟨f5,f6,f7,f8,c5,c8,hA⟩:=zfj k hk
 rw [hA]
 refine Sp.of_vmW c.ft (by simp) ((Weak.openRef (t:=2) (v:=enc v) (n:=8) (by simp [go_sem]) (by simp [go_sem])).trans (Weak.openRef (t:=3) (v:=enc w) (n:=8) (by simp [go_sem]) (by simp [go_sem]))) ?_
 simp [g.ft,go_sem]
 refine zae iv ?_
 refine zae iw ?_
 refine zaa (zsv k hk v.parts[i] w.parts[i] n hv hw hn hn1 sv sw) (zbz (by simp [go_sem]) (zbz (by simp [go_sem]) (zfg _ _))) ?_
 simp [go_sem]
theorem zhl (st:St) (s g ix off:Nat):toPV st 5 (.ptr s g ix off)=if ix=0/\off=0 then match st.obj s g with
  | some o=>match o.es with
   | [e]=>(toPV st 4 e).map .ref
   | _=>none
  | none=>none
  else none:=rfl
theorem zne (st:St) (v:PV):toPV st 4 (.p v)=some v:=rfl
theorem zw8 (r:GRing) (v w:GW) (n:Nat) (hv:v.sm n) (hw:w.sm n) (hn:n<=400000) (hn1:1<=n) (cv:v.chk r) (cw:w.chk r):Sp P F.am [enc r,enc v,enc w] (.pure (enc (r.plus v w))):=by
 have hr0:=cv.1
 by_cases h6:r.kind=6
 rotate_left
 ·have h1:r.plus v w=za4 r.kind v w:=by simp [GRing.plus,h6]
  rw [h1]; exact z4a r v w n hv hw hn hn1 cv cw h6
 have hp:=GRing.ok_parts hr0 h6
 have t1:v.tk r=v:=if_pos cv
 have t2:w.tk r=w:=if_pos cw
 have k1:=zhj r v (hv.mono (by omega))
 have k2:=zhj r w (hw.mono (by omega))
 rw [t1] at k1; rw [t2] at k2
 have lv:=(cv.2.2 h6).1
 have lw:=(cw.2.2 h6).1
 have lp:(zf3 r.parts v.parts w.parts).length=r.parts.length:=zbn lv lw
 refine Sp.vz c.am fun _=>?_
 simp [g.am,go_sem]
 refine zaa (zft r) rfl ?_
 simp [hr0,go_sem]
 refine zaf k1 ?_
 simp [go_sem]
 refine zaf k2 ?_
 simp [go_sem,h6]
 refine zaa (zzc r hp.2.2 hp.2.1 F.ft [.ref (enc v),.ref (enc w)] (zf3 r.parts v.parts w.parts) lp fun i h h'=>?_) ?_ ?_
 ·rw [zb2 h (by omega) (by omega) h']
  exact zw9 r.parts[i] (hp.2.2 _ (List.getElem_mem h)) v w i n (by omega) (by omega) (by omega) (hv.parts _ (List.getElem_mem _)) (hw.parts _ (List.getElem_mem _)) hn hn1 ((cv.2.2 h6).2.2 i h (by omega)) ((cw.2.2 h6).2.2 i h (by omega))
 ·simp [go_sem,zhl,zne,h6]
 simp [go_sem,GRing.plus,h6]
theorem zjp (r:GRing) (v w:GW) (n:Nat) (hv:v.sm n) (hw:w.sm n) (hn:n<=2000) (hn1:1<=n) (cv:v.chk r) (cw:w.chk r):Sp P F.am [enc r,enc v,enc w] (.pure (enc (r.plus v w))):=zw8 r v w n hv hw (by omega) hn1 cv cw
end Go.Ab
namespace Go.Ab
open Enc (enc)
theorem zu2 (r:GRing) (w:GW) (hw:w.sm 1048576):Sp P F.jf [enc r,enc w] (.pure (.bool (decide (w=r.zero)))):=by
 refine Sp.vz c.jf fun _=>?_
 simp [g.jf,go_sem]
 refine zaa (zgm r) rfl ?_
 simp [go_sem]
 refine zaf (zdf w hw r.zero) ?_
 simp [go_sem]
theorem z0r (r:GRing) (hl:r.parts.length<=2147483648):Sp P F.iu [enc r] (.pure (enc r)):=by
 refine Sp.vz c.iu fun _=>?_
 simp [g.iu,go_sem]
 refine zaf (zvh r.parts hl) ?_
 simp [go_sem]
theorem zo2 (r:GRing) (w:GW) (hw:w.sm 1048576):Sp P F.fq [enc w,.ref (enc r)] (.pure (.bool (!decide (w.chk r)))):=by
 refine Sp.of_vmW c.fq (by simp) (Weak.openRef (t:=1) (v:=enc r) (n:=2) (by simp [go_sem]) (by simp [go_sem])) ?_
 simp [g.fq,go_sem]
 refine zaf (zlm r w hw) ?_
 simp [go_sem]
end Go.Ab
namespace Go.Ab
open Enc (enc)
theorem zxe (x y:GArc):Sp P F.bk [enc x,enc y] (.pure (.int .i64 (zg2 [cmpI x.f y.f,cmpI x.l y.l,cmpI x.t y.t]))):=by
 refine Sp.vz c.bk fun _=>?_
 simp [g.bk,go_sem]
 refine zaa (ziv x.f y.f) rfl ?_
 simp [go_sem]
 refine zaa (ziv x.l y.l) rfl ?_
 simp [go_sem]
 refine zaa (ziv x.t y.t) rfl ?_
 simp [go_sem]
 refine zaf (z2m [cmpI x.f y.f,cmpI x.l y.l,cmpI x.t y.t] (by simp)) ?_
 simp [go_sem]
theorem zj3 (r:GRing) (l:List GW) (hl:∀ w∈l,w.sm 1048576) (hlen:l.length<=2147483648):Sp P F.jc [enc r,.sl (ens l)] (.pure (.bool (!l.any fun w => !decide (w.chk r)))):=by
 refine Sp.vz c.jc fun _=>?_
 simp [g.jc,go_sem]
 refine zaa (zly l F.fq [.ref (enc r)] (fun w => !decide (w.chk r)) (by omega) fun w hw=>zo2 r w (hl w hw)) (by simp [go_sem,zhl,zne]) ?_
 simp [go_sem]
theorem zo5 (st:St) (s g ix off:Nat):toPV st FUEL (.ptr s g ix off)=if ix=0/\off=0 then match st.obj s g with
  | some o=>match o.es with
   | [e]=>(toPV st 5 e).map .ref
   | _=>none
  | none=>none
  else none:=rfl
theorem zv6 (st:St) (v:PV):toPV st 5 (.p v)=some v:=rfl
theorem zk5 (x:Int) (a:GAuto):Sp P F.jk [.int .i64 x,.ref (enc a)] (.pure (.bool (decide (0<=x/\x<a.st)))):=by
 refine Sp.of_vmW c.jk (by simp) (Weak.openRef (t:=1) (v:=enc a) (n:=7) (by simp [go_sem]) (by simp [go_sem])) ?_
 simp [g.jk,go_sem]
 exact ⟨fun h _=>h,fun h h'=>by omega⟩
def inA (x:GArc) (a:GAuto):Prop:=0<=x.f/\x.f<a.st/\0<=x.t/\x.t<a.st/\0<=x.l/\x.l<=a.sy/\x.w.chk a.ring
noncomputable instance (x:GArc) (a:GAuto):Decidable (inA x a):=Classical.propDecidable _
theorem zu3 (x:GArc) (a:GAuto) (hw:x.w.sm 1048576):Sp P F.ja [enc x,enc a] (.pure (.bool (decide (inA x a)))):=by
 refine Sp.vz c.ja fun _=>?_
 have hd:decide (inA x a)=(decide (0<=x.f)&&(decide (x.f<a.st)&&(decide (0<=x.t)&&(decide (x.t<a.st)&&(decide (0<=x.l)&&(decide (x.l<=a.sy)&&decide (x.w.chk a.ring))))))):=by
  rw [Bool.eq_iff_iff,decide_eq_true_iff]; simp only [decide_eq_true_eq,Bool.and_eq_true]; exact Iff.rfl
 rw [hd]
 simp [g.ja,go_sem]
 refine zaa (zk5 x.f a) (by simp [go_sem,zo5,zv6]) ?_
 simp [go_sem]
 refine ⟨fun h1 h2=>?_,fun h1=>?_⟩
 ·refine zaa (zk5 x.t a) (by simp [go_sem,zo5,zv6]) ?_
  simp [go_sem]
  refine ⟨fun h3 h4=>⟨fun h5=>⟨fun h6=>?_,fun h6=>?_⟩,fun h5=>?_⟩,fun h3=>?_⟩
  ·refine zaf (zlm a.ring x.w hw) ?_
   simp [go_sem,h1,h2,h3,h4,h5,h6]
  ·intros; omega
  ·intros; omega
  ·intro _ _ h; have:=h3 h; intros; omega
 ·intro h; have:=h1 h; intros; omega
end Go.Ab
namespace Go.Ab
open Enc (enc)
theorem zqu (x:GArc) (a:GAuto) (hw:x.w.sm 1048576):Sp P F.fe [enc x,.ref (enc a)] (.pure (.bool (!decide (inA x a)))):=by
 refine Sp.of_vmW c.fe (by simp) (Weak.openRef (t:=1) (v:=enc a) (n:=7) (by simp [go_sem]) (by simp [go_sem])) ?_
 simp [g.fe,go_sem]
 refine zaf (zu3 x a hw) ?_
 simp [go_sem]
noncomputable def GAuto.vb (a:GAuto):Bool:=a.ring.ok&&(decide (1<=a.sy)&&(decide (a.sy<=32)&&(decide (0<=a.st)&&(decide (a.st<=64)&&(decide ((a.ini.length:Int)=a.st)&&(decide ((a.fin.length:Int)=a.st)&&(decide (a.arcs.length<=2048)&&((!a.arcs.any fun x => !decide (inA x a))&&((!a.ini.any fun w => !decide (w.chk a.ring))&&(!a.fin.any fun w => !decide (w.chk a.ring)))))))))))
structure GAuto.sm (a:GAuto) (n:Nat):Prop where
 ini:∀ w∈a.ini,w.sm n
 fin:∀ w∈a.fin,w.sm n
 arcs:∀ x∈a.arcs,x.w.sm n
theorem zvy (a:GAuto) (h:a.sm 1048576):Sp P F.ir [enc a] (.pure (.bool a.vb)):=by
 refine Sp.vz c.ir fun _=>?_
 simp [g.ir,go_sem]
 refine zaa (zft a.ring) rfl ?_
 cases hr:a.ring.ok
 ·simp [go_sem,GAuto.vb,hr]
 simp [go_sem]
 refine ⟨fun h1=>by simp [GAuto.vb,show ¬ 1<=a.sy by omega],fun h1=>⟨fun h2=>by simp [GAuto.vb,show ¬ a.sy<=32 by omega],fun h2=>⟨fun h3=>by simp [GAuto.vb,show ¬ 0<=a.st by omega],fun h3=>⟨fun h4=>by simp [GAuto.vb,show ¬ a.st<=64 by omega],fun h4=>⟨fun h5=>⟨fun h6=>⟨fun h7=>by simp [GAuto.vb,show ¬ a.arcs.length<=2048 by omega],fun h7=>?_⟩,fun h6=>by simp [GAuto.vb,h6]⟩,fun h5=>by simp [GAuto.vb,h5]⟩⟩⟩⟩⟩
 refine zaa (zrm a.arcs F.fe [.ref (enc a)] (fun x => !decide (inA x a)) (by omega) fun x hx=>zqu x a (h.arcs x hx)) (by simp [go_sem,zhl,zne]) ?_
 simp [go_sem]
 cases hA:a.arcs.any fun x => !decide (inA x a)
 rotate_left
 ·simp [go_sem]
  simp [GAuto.vb,hA]
 simp [go_sem]
 refine zaf (zj3 a.ring a.ini h.ini (by omega)) ?_
 cases hB:a.ini.any fun w => !decide (w.chk a.ring)
 rotate_left
 ·simp [go_sem]
  simp [GAuto.vb,hB]
 simp [go_sem]
 refine zaf (zj3 a.ring a.fin h.fin (by omega)) ?_
 have h8:a.arcs.length<=2048:=by omega
 simp [go_sem]
 simp only [GAuto.vb,hr,h1,h2,h3,h4,h5,h6,h8,hA,hB,decide_true,Bool.true_and,Bool.not_false]
 cases a.fin.any fun w => !decide (w.chk a.ring)<;>rfl
end Go.Ab
namespace Go.Ab
open Enc (enc)
theorem z2j (r:GRing) (l:List GW) (n:Nat) (hn:n<=2000) (hn1:1<=n) (hl:l.length<=1000000) (h:∀ w∈l,w.sm n/\w.chk r) (hz:r.zero.sm n) (cz:r.zero.chk r) :
  Sp P F.fc [enc r,.sl (ens l)] (.pure (.sl (ens (l.map fun w=>r.plus w r.zero)))):=by
 refine Sp.vz c.fc fun _=>?_
 simp [g.fc,go_sem]
 refine zai (S:=fun k:Nat=>mkSt [(2,.ptr 2 0 0 0),(5,.own 1 0 0 k),(8,.p (.sl (ens l))),(9,.p (.int .i64 l.length)),(10,.p (.int .i64 k))] [(2,⟨2,[.p (enc r)]⟩),(1,⟨8,avs ((l.take k).map fun w=>r.plus w r.zero)⟩)]) (I:=fun k=>k<=l.length) (m:=fun k=>l.length - k) 0
  (Weak.nl 5 77 8 rfl (Weak.to [2,5,8,9,10] [((2,0),2),((77,0),1)] (by simp [go_sem]))) (by omega) ?_
 rintro k h1 R hn' hr hx
 have e3:=i64s k (by omega)
 simp [g.oq,mkSt,go_sem]
 refine ⟨fun hk=>?_,fun hk=>hx _ _ ?_⟩
 ·refine zae hk ?_
  try simp [go_sem]
  refine zaa (zgm r) rfl ?_
  try simp [go_sem]
  have hw:=h _ (List.getElem_mem hk)
  refine zaf (zjp r l[k] r.zero n hw.1 hz hn hn1 hw.2 cz) ?_
  simp [go_sem,e3]
  have hts:l.take (k+1)=l.take k++[l[k]]:=List.take_succ_eq_append_getElem hk
  refine ⟨⟨by omega,by omega⟩,hn' (k+1) _ (Weak.to [2,5,8,9,10] [((2,0),2),((21,0),1)] ?_) (by omega) (by omega)⟩
  have h2:(l.map fun w=>r.plus w r.zero).take (k+1)=(l.map fun w=>r.plus w r.zero).take k++[r.plus l[k] r.zero]:=by
   rw [List.take_succ_eq_append_getElem (by simpa using hk)]; simp
  simp [mkSt,go_sem]
  rw [h2]; simp [go_sem]
 ·have:k=l.length:=by omega
  subst this
  simp [go_sem]
  rw [List.take_of_length_le (by simp),List.take_of_length_le (by simp)]
end Go.Ab
namespace Go.Ab
open Enc (enc)
theorem zm0:∀ (l m:List Int),l.length=m.length->zg2 (List.zipWith cmpI l m)=lexI l m
 | [],[],_=>rfl
 | [],y::ys,h=>by simp at h
 | x::xs,[],h=>by simp at h
 | x::xs,y::ys,h=>by
  have ih:=zm0 xs ys (by simpa using h)
  simp only [List.zipWith,zg2,lexI,ih,cmpI]
  by_cases h1:x<y
  ·simp [h1]
  ·by_cases h2:y<x
   ·simp [h1,h2]
   ·simp [h1,h2]
theorem zmi (x y:GArc):Sp P F.bk [enc x,enc y] (.pure (.int .i64 (lexI x.key y.key))):=by
 have h:=zxe x y
 rw [show [cmpI x.f y.f,cmpI x.l y.l,cmpI x.t y.t]=List.zipWith cmpI x.key y.key from rfl,zm0 x.key y.key rfl] at h
 exact h
end Go.Ab
namespace Go.Ab
open Enc (enc)
theorem zr7 {k:Int} (hk:1<=k/\k<=5):(zcx k).si k:=by
 have:k=1\/k=2\/k=3\/k=4\/k=5:=by omega
 have h1:=zyo
 rcases this with rfl|rfl|rfl|rfl|rfl
 ·rw [si1]; exact ⟨rfl,rfl,rfl,rfl,rfl,h1⟩
 ·rw [si2]; exact ⟨rfl,rfl,rfl,rfl,Int.le_refl 0,by simp [zcx,GW.cost],fun _=>rfl⟩
 ·rw [si3]; exact ⟨rfl,rfl,rfl,rfl,rfl,h1,by show 0<=gr0.v; rw [zp1]; decide,by show gr0.v<=1; rw [zp1]; decide⟩
 ·rw [si4]; exact ⟨rfl,rfl,rfl,rfl,rfl⟩
 ·rw [si5]; exact ⟨rfl,rfl,rfl,rfl,rfl,zrb⟩
theorem zc4 {k:Int} (hk:1<=k/\k<=5) {v w:GW} (hv:v.si k) (hw:w.si k):(za4 k v w).si k:=by
 have:k=1\/k=2\/k=3\/k=4\/k=5:=by omega
 rcases this with rfl|rfl|rfl|rfl|rfl
 ·rw [si1]; exact ⟨rfl,rfl,rfl,rfl,rfl,zd5 _⟩
 ·unfold za4; simp only [if_neg (show ¬ (2:Int)=1 by decide),if_pos]; split<;>assumption
 ·unfold za4; simp only [if_neg (show ¬ (3:Int)=1 by decide),if_neg (show ¬ (3:Int)=2 by decide),if_pos]; split<;>assumption
 ·rw [si4]; exact ⟨rfl,rfl,rfl,rfl,rfl⟩
 ·rw [si5]; exact ⟨rfl,rfl,rfl,rfl,rfl,zc5 _ (si_p hv)⟩
theorem zmf {k:Int} (hk:1<=k/\k<=5) {v:GW} (hv:v.si k):za4 k v (zcx k)=v:=by
 have:k=1\/k=2\/k=3\/k=4\/k=5:=by omega
 cases v with
 | mk q c i s p ps =>
 rcases this with rfl|rfl|rfl|rfl|rfl
 ·obtain ⟨h1,h2,h3,h4,h5,h6⟩:=si1.1 hv
  simp only [GW.parts_mk,GW.inf_mk,GW.cost_mk,GW.set_mk,GW.poly_mk,GW.q_mk] at h1 h2 h3 h4 h5 h6
  subst h1 h2 h3 h4 h5
  simp [za4,zcx,GW.q_mk,zp1,Rat.add_zero,znl h6]
 ·obtain ⟨h1,h2,h3,h4,h5,h6,h7⟩:=si2.1 hv
  simp only [GW.parts_mk,GW.inf_mk,GW.cost_mk,GW.set_mk,GW.poly_mk,GW.q_mk] at h1 h2 h3 h4 h5 h6 h7
  subst h1 h2 h3 h4
  cases i
  ·simp [za4,zcx,GW.inf_mk]
  ·have:=h7 rfl; subst this
   simp [za4,zcx,GW.inf_mk]
 ·obtain ⟨h1,h2,h3,h4,h5,h6,h7,h8⟩:=si3.1 hv
  simp only [GW.parts_mk,GW.inf_mk,GW.cost_mk,GW.set_mk,GW.poly_mk,GW.q_mk] at h1 h2 h3 h4 h5 h6 h7
  have:¬ q.v<0:=Rat.not_lt.2 h7
  simp [za4,zcx,GW.q_mk,zp1,this]
 ·obtain ⟨h1,h2,h3,h4,h5⟩:=si4.1 hv
  simp only [GW.parts_mk,GW.inf_mk,GW.cost_mk,GW.set_mk,GW.poly_mk,GW.q_mk] at h1 h2 h3 h4 h5
  subst h1 h2 h3 h4 h5
  simp [za4,zcx,GW.set_mk]
 ·obtain ⟨h1,h2,h3,h4,h5,h6⟩:=si5.1 hv
  simp only [GW.parts_mk,GW.inf_mk,GW.cost_mk,GW.set_mk,GW.poly_mk,GW.q_mk] at h1 h2 h3 h4 h5 h6
  subst h1 h2 h3 h4 h5
  simp [za4,zcx,GW.poly_mk,padd]
theorem zgl {r:GRing} (h:r.ok=true):r.zero.chk r:=by
 by_cases h6:r.kind=6
 ·refine ⟨h,fun h'=>absurd h6 h',fun _=>?_⟩
  have hp:=GRing.ok_parts h h6
  simp [GRing.zero,h,h6,GW.parts_mk]
  exact fun i hi _=>zr7 (hp.2.2 _ (List.getElem_mem hi))
 ·have hk:=GRing.ok_kind h h6
  refine ⟨h,fun _=>?_,fun h'=>absurd h' h6⟩
  have:r.zero=zcx r.kind:=by simp [GRing.zero,h,zcx,hk.2.2]
  rw [this]; exact zr7 ⟨hk.1,hk.2.1⟩
theorem zz1 (k:Int) (n:Nat):(zcx k).sm n:=.one k (zga n) (znq n) (by simp)
theorem zvs {r:GRing} {n:Nat} (h:r.ok=true) (hn:3<=n):r.zero.sm n:=by
 have:r.zero=.mk gr0 0 (decide (r.kind=2)) 0 [] (r.parts.map zcx):=by simp [GRing.zero,h]
 rw [this]
 have hl:r.parts.length<=3:=by
  by_cases h6:r.kind=6
  ·exact (GRing.ok_parts h h6).2.1
  ·simp [(GRing.ok_kind h h6).2.2]
 refine .mk (zga n) (znq n) (by simp) (by simp; omega) fun w hw=>?_
 obtain ⟨k,_,rfl⟩:=List.mem_map.1 hw
 exact zz1 k n
theorem znr {r:GRing} {v w:GW} (hv:v.chk r) (hw:w.chk r):(r.plus v w).chk r:=by
 by_cases h6:r.kind=6
 ·have hp:=GRing.ok_parts hv.1 h6
  have lv:=(hv.2.2 h6).1
  have lw:=(hw.2.2 h6).1
  refine ⟨hv.1,fun h=>absurd h6 h,fun _=>?_⟩
  have e:r.plus v w=.mk gr0 0 false 0 [] (zf3 r.parts v.parts w.parts):=by simp [GRing.plus,h6]
  rw [e]
  refine ⟨zbn lv lw,rfl,fun i h h'=>?_⟩
  simp only [GW.parts_mk] at h' ⊢
  rw [zb2 h (by omega) (by omega) h']
  exact zc4 (hp.2.2 _ (List.getElem_mem h)) ((hv.2.2 h6).2.2 i h (by omega)) ((hw.2.2 h6).2.2 i h (by omega))
 ·have hk:=GRing.ok_kind hv.1 h6
  have e:r.plus v w=za4 r.kind v w:=by simp [GRing.plus,h6]
  rw [e]
  exact ⟨hv.1,fun _=>zc4 ⟨hk.1,hk.2.1⟩ (hv.2.1 h6) (hw.2.1 h6),fun h=>absurd h h6⟩
theorem zc9 {r:GRing} {v:GW} (hv:v.chk r):r.plus v r.zero=v:=by
 by_cases h6:r.kind=6
 ·have hp:=GRing.ok_parts hv.1 h6
  obtain ⟨lv,ev,sv⟩:=hv.2.2 h6
  have e:r.plus v r.zero=.mk gr0 0 false 0 [] (zf3 r.parts v.parts r.zero.parts):=by simp [GRing.plus,h6]
  have ez:r.zero.parts=r.parts.map zcx:=by simp [GRing.zero,hv.1,GW.parts_mk]
  rw [e,ez,ev]
  simp only [GW.parts_mk]
  congr 1
  refine List.ext_getElem (by rw [zbn lv (by simp),lv]) fun i h1 h2=>?_
  have h3:i<r.parts.length:=by rw [<- lv]; exact h2
  rw [zb2 h3 h2 (by simpa using h3) h1]
  simp only [List.getElem_map]
  exact zmf (hp.2.2 _ (List.getElem_mem h3)) (sv i h3 h2)
 ·have hk:=GRing.ok_kind hv.1 h6
  have e:r.plus v r.zero=za4 r.kind v r.zero:=by simp [GRing.plus,h6]
  have ez:r.zero=zcx r.kind:=by simp [GRing.zero,hv.1,zcx,hk.2.2]
  rw [e,ez]
  exact zmf ⟨hk.1,hk.2.1⟩ (hv.2.1 h6)
theorem z38 {r:GRing} {v w:GW} {m n:Nat} (sv:v.sm m) (sw:w.sm n) (hv:v.chk r) (hw:w.chk r) (hm:1<=m) (hn:1<=n):(r.plus v w).sm (m+n+1):=by
 by_cases h6:r.kind=6
 ·have hp:=GRing.ok_parts hv.1 h6
  have lv:=(hv.2.2 h6).1
  have lw:=(hw.2.2 h6).1
  have e:r.plus v w=.mk gr0 0 false 0 [] (zf3 r.parts v.parts w.parts):=by simp [GRing.plus,h6]
  have hl:=zbn (ks:=r.parts) (vs:=v.parts) (ws:=w.parts) lv lw
  rw [e]
  refine .tup (by rw [hl,<- lv]; have:=sv.plen; omega) fun x hx=>?_
  obtain ⟨i,hi,rfl⟩:=List.mem_iff_getElem.1 hx
  have h3:i<r.parts.length:=by omega
  rw [zb2 h3 (by omega) (by omega) hi]
  exact zsu (sv.parts _ (List.getElem_mem _)) (sw.parts _ (List.getElem_mem _)) (zt5 hv h6 h3 (by omega)) (zt5 hw h6 h3 (by omega)) hm hn
 ·have hk:=GRing.ok_kind hv.1 h6
  have e:r.plus v w=za4 r.kind v w:=by simp [GRing.plus,h6]
  have er:r=⟨r.kind,[]⟩:=by rw [<- hk.2.2]
  rw [e]
  rw [er] at hv hw
  exact zsu sv sw hv hw hm hn
end Go.Ab
namespace Go.Ab
section
variable {α : Type} {key : α -> List Int}
def zfw (key : α -> List Int) (l:List α) (i:Nat):List α := srt key (l.take i)++l.drop i
theorem z1l (s:List α) (x : α):(insR key s x).length=s.length+1:=by
 induction s with
 | nil=>rfl
 | cons z r ih=>simp only [insR]; split<;>simp [ih]
theorem z1k {s:List α} {x y : α}:y∈insR key s x ↔ y=x\/y∈s:=by
 induction s with
 | nil=>simp [insR]
 | cons z r ih =>
  simp only [insR]; split
  ·simp
  ·simp only [List.mem_cons,ih]
   exact ⟨fun h=>by rcases h with h|h|h<;>simp [h],fun h=>by rcases h with h|h|h<;>simp [h]⟩
theorem zsm (l:List α) (x : α):srt key (l++[x])=insR key (srt key l) x:=by simp [srt,List.foldl_append]
theorem zc7 (l:List α):Srt key (srt key l)/\(srt key l).length=l.length/\∀ y,y∈srt key l ↔ y∈l:=by
 have:∀ (n:Nat) (l:List α),l.length=n->Srt key (srt key l)/\(srt key l).length=l.length/\∀ y,y∈srt key l ↔ y∈l:=by
  intro n
  induction n with
  | zero=>intro l hl; have:=List.eq_nil_of_length_eq_zero hl; subst this; simp [srt,Srt]
  | succ n ih =>
   intro l hl
   obtain ⟨l',y,rfl⟩:∃ l' y,l=l'++[y]:=⟨l.dropLast,l.getLast (by intro h; simp [h] at hl),(List.dropLast_concat_getLast _).symm⟩
   obtain ⟨h1,h2,h3⟩:=ih l' (by simpa using hl)
   rw [zsm]
   refine ⟨zk6 h1,by rw [z1l,h2]; simp,fun z=>?_⟩
   rw [z1k,h3]; simp [or_comm]
 exact this _ l rfl
theorem zuh (l:List α):zfw key l 1=l:=by cases l<;>simp [zfw,srt,insR]
theorem zwo {l:List α} {i:Nat} (h:l.length<=i):zfw key l i=srt key l:=by
 unfold zfw; rw [List.take_of_length_le h,List.drop_of_length_le h,List.append_nil]
theorem zwn {l:List α} {i:Nat} (h:i<l.length):zfw key l i=srt key (l.take i)++l[i]::l.drop (i+1):=by
 unfold zfw; rw [List.drop_eq_getElem_cons h]
theorem zkb {l:List α} {i:Nat} (h:i<l.length):zfw key l (i+1)=insR key (srt key (l.take i)) l[i]++l.drop (i+1):=by
 unfold zfw; rw [List.take_succ_eq_append_getElem h,zsm]
theorem zri {x : α} {B:List α} (hB:∀ b∈B,key x<key b):∀ {A:List α},(∀ a∈A,¬ key x<key a)->insR key (A++B) x=A++x::B
 | [],_=>by
  cases B with
  | nil=>rfl
  | cons b B=>simp [insR,hB b (by simp)]
 | a::A,h=>by
  have:=zri hB (A:=A) fun y hy=>h y (by simp [hy])
  simp [insR,h a (by simp),this]
theorem zwc (A B:List α) (z x : α) (rest:List α):((A++[z]++x::(B++rest)).set (A.length+1) z).set A.length x=A++x::((z::B)++rest):=by
 simp [List.set_append,List.append_assoc]
end
end Go.Ab
namespace Go.Ab
section
variable {α : Type} {key : α -> List Int} {up : α -> α -> α} {nw : α -> α}
theorem zxs:∀ {out:List α} {x y : α},x∈mst key up nw out y->x∈out\/x=nw y\/∃ z∈out,x=up z y
 | [],x,y,h=>by simp [mst] at h; exact .inr (.inl h)
 | [z],x,y,h=>by
  simp only [mst] at h
  split at h
  ·simp at h; exact .inr (.inr ⟨z,by simp,h⟩)
  ·simp at h; rcases h with h|h
   ·exact .inl (by simp [h])
   ·exact .inr (.inl h)
 | z::w::r,x,y,h=>by
  rw [zkt z y (by simp)] at h
  rcases List.mem_cons.1 h with h|h
  ·exact .inl (by simp [h])
  ·rcases zxs h with h|h|⟨u,h,e⟩
   ·exact .inl (List.mem_cons_of_mem _ h)
   ·exact .inr (.inl h)
   ·exact .inr (.inr ⟨u,List.mem_cons_of_mem _ h,e⟩)
theorem zti:∀ {out:List α} {x y : α},x∈insF key up nw out y->x∈out\/x=nw y\/∃ z∈out,x=up z y
 | [],x,y,h=>by simp [insF] at h; exact .inr (.inl h)
 | z::r,x,y,h=>by
  simp only [insF] at h
  split at h
  ·rcases List.mem_cons.1 h with h|h
   ·exact .inl (by simp [h])
   ·rcases zti h with h|h|⟨u,h,e⟩
    ·exact .inl (List.mem_cons_of_mem _ h)
    ·exact .inr (.inl h)
    ·exact .inr (.inr ⟨u,List.mem_cons_of_mem _ h,e⟩)
  ·split at h
   ·rcases List.mem_cons.1 h with h|h
    ·exact .inr (.inr ⟨z,by simp,h⟩)
    ·exact .inl (List.mem_cons_of_mem _ h)
   ·rcases List.mem_cons.1 h with h|h
    ·exact .inr (.inl h)
    ·exact .inl h
theorem zmn (out:List α) (y : α):(mst key up nw out y).length<=out.length+1:=by
 match out with
 | []=>simp [mst]
 | [z]=>simp only [mst]; split<;>simp
 | z::w::r =>
  rw [zkt z y (by simp)]
  have:=zmn (w::r) y
  simp only [List.length_cons] at this ⊢; omega
theorem zhu {l:List α} {k:Nat} (h:k<l.length):mrg key up nw (l.take (k+1))=mst key up nw (mrg key up nw (l.take k)) l[k]:=by
 rw [List.take_succ_eq_append_getElem h,zs8]
theorem znw {l:List α} {k:Nat} (h:k<l.length):nfm key up nw (l.take (k+1))=insF key up nw (nfm key up nw (l.take k)) l[k]:=by
 rw [List.take_succ_eq_append_getElem h]; unfold nfm; rw [List.foldl_append]; rfl
theorem zre {Q:Nat -> α -> Prop} (hm:∀ k x,Q k x->Q (k+1) x) {l:List α} (hn:∀ x∈l,Q 0 (nw x)) (hu:∀ k z,∀ x∈l,Q k z->Q (k+1) (up z x)) (h0:∀ k x,Q 0 x->Q k x) :
  ∀ k,k<=l.length->(mrg key up nw (l.take k)).length<=k/\∀ x∈mrg key up nw (l.take k),Q k x
 | 0,_=>by simp [mrg]
 | k+1,h=>by
  obtain ⟨i1,i2⟩:=zre hm hn hu h0 k (by omega)
  have hk:k<l.length:=by omega
  rw [zhu hk]
  refine ⟨Nat.le_trans (zmn _ _) (by omega),fun x hx=>?_⟩
  rcases zxs hx with h|h|⟨z,h,e⟩
  ·exact hm _ _ (i2 x h)
  ·rw [h]; exact h0 _ _ (hn _ (List.getElem_mem hk))
  ·rw [e]; exact hu _ _ _ (List.getElem_mem hk) (i2 z h)
end
end Go.Ab
