/-
Proofs for the law TransducerHasAForm, part 35. Conditions: none.
-/
import Derived.Test.YtbhboeijjgiflaaGreatDoorAP32
import Derived.Test.YtbhboeijjgiflaaGreatDoorAP12
import Derived.Test.YtbhboeijjgiflaaGreatDoorAP23
import Derived.Test.YtbhboeijjgiflaaGreatDoorAP28
import Derived.Test.YtbhboeijjgiflaaGreatDoorAP33
import Derived.Test.YtbhboeijjgiflaaGreatDoorAP34
import Derived.Test.YtbhboeijjgiflaaGreatDoorAP31
import Derived.Test.YtbhboeijjgiflaaGreatDoorAP25
import Derived.Test.YtbhboeijjgiflaaGreatDoorAP29
import Derived.Test.YtbhboeijjgiflaaGreatDoorAP30
set_option maxRecDepth 100000
set_option maxHeartbeats 4000000
set_option linter.all false
namespace Go.Ab
def yj0:=@if_neg
def yj1:=@if_pos
def yj2:=@List.getElem_mem
def yj3:=@List.mem_map
def yj4:=@List.getD_eq_getElem?_getD
def yj5:=@Nat.le_refl
def yj6:=@Nat.le_trans
def yj7:=@List.take_succ_eq_append_getElem
def yj8:=@List.getElem?_eq_getElem
def yj9:=@List.mem_cons
def yjf:=@List.mem_cons_of_mem
def yjg:=@if_true
def yjh:=@List.getElem?_map
def yji:=@Nat.mul_le_mul_right
def yjj:=@List.mem_cons_self
def yjk:=@List.mem_range
def yjl:=@List.take_of_length_le
def yjm:=@Rat.add_zero
def yjn:=@Nat.succ_mul
def yjo:=@Rat.add_assoc
def yjp:=@List.length_filter_le
def yjq:=@List.take_length
def yjr:=@List.foldl_append
def yjs:=@List.getElem?_range
def yjt:=@Nat.pow_add
def yju:=@List.mem_iff_getElem
def yjv:=@Nat.mul_le_mul
def yjw:=@if_false
def yjx:=@List.mem_append
def yjy:=@List.filter_append
def yjz:=@Nat.zero_le
def yk0:=@Nat.lt_of_lt_of_le
def yk1:=@List.mem_filter
def yk2:=@List.length_map
def yk3:=@Nat.mul_le_mul_left
def yk4:=@Int.toNat_natCast
def yk5:=@List.range_succ
def yk6:=@List.length_take
def yk7:=@Subtype.ext
def yk8:=@List.getElem?_eq_none
def yk9:=@List.map_cons
def yka:=@Ne.symm
def ykb:=@Rat.not_lt
def ykc:=@List.map_congr_left
def ykd:=@List.all_eq_true
def yke:=@List.map_map
def ykf:=@Nat.lt_of_le_of_lt
def ykg:=@List.nodup_cons
def ykh:=@Rat.add_comm
def yki:=@List.mem_of_mem_take
def ykj:=@List.map_append
def ykk:=@Nat.add_mul
def ykl:=@Function.comp_apply
def ykm:=@Nat.dvd_trans
def ykn:=@List.ext_getElem
def yko:=@List.append_nil
def ykp:=@List.getElem?_set_ne
def ykq:=@List.length_cons
def ykr:=@Bool.false_eq_true
def yks:=@Option.getD_some
def ykt:=@List.mem_or_eq_of_mem_set
def yku:=@List.getElem?_set_self
def ykv:=@Rat.zero_mul
def ykw:=@Nat.add_zero
def ykx:=@Nat.succ_le_of_lt
def yky:=@Bool.and_eq_true
def ykz:=@Nat.zero_add
def yl0:=@List.nodup_append
def yl1:=@Nat.le_of_lt
def yl2:=@List.filterMap_cons
def yl3:=@List.filter_cons
def yl4:=@Option.map_some
def yl5:=@List.getElem?_eq_some_iff
def yl6:=@Nat.pow_le_pow_right
def yl7:=@Nat.mul_lt_mul''
def yl8:=@Nat.pow_pos
def yl9:=@List.drop_eq_getElem_cons
def yla:=@Bool.eq_false_or_eq_true
def ylb:=@List.foldl_cons
def ylc:=@List.eq_of_mem_replicate
def yld:=@Rat.mul_assoc
def yle:=@List.flatMap_cons
def ylf:=@Prod.mk.injEq
def ylg:=@Nat.mul_pos
def ylh:=@Nat.mul_comm
def yli:=@List.mem_singleton
def ylj:=@List.drop_drop
def ylk:=@List.cons_append
def yll:=@List.take_append_drop
def ylm:=@Rat.mul_zero
def yln:=@Rat.mul_comm
def ylo:=@List.append_of_mem
def ylp:=@Bool.true_and
def ylq:=@Nat.pow_succ
def ylr:=@Nat.mul_assoc
def yls:=@Nat.mul_div_le
def ylt:=@Nat.dvd_mul_right
def ylu:=@Nat.dvd_mul_left
def ylv:=@List.pairwise_map
def ylw:=@List.mem_of_getElem?
def ylx:=@List.length_append
def yly:=@Rat.mul_le_mul_of_nonneg_left
def ylz:=@List.append_assoc
def ym0:=@List.eq_nil_or_concat
def ym1:=@List.concat_eq_append
def ym2:=@List.getElem?_append_right
def ym3:=@List.getElem?_replicate
def ym4:=@List.contains_iff_mem
def ym5:=@List.drop_replicate
def ym6:=@Nat.pos_of_ne_zero
def ym7:=@Nat.le_mul_of_pos_left
def ym8:=@List.getElem_cons_drop
open Enc (enc)
theorem yg7:yfg P F.db 6:=sortK0
theorem yho (m n:GMono):Sp P F.bt [enc m,enc n] (.pure (.int .i64 (n.e.cmp m.e))):=by refine Sp.vz c.bt fun _=>?_;simp [g.bt,go_sem];refine zaa (zry m.e n.e) rfl ?_;simp [go_sem]
theorem z58:SpM P F.mu [.sl [],.int .i64 0,.int .i64 0,.fn F.bt []] 0 6 [] (.pure (.tup [])):=by refine SpM.of_vm c.mu (by simp) rfl rfl ?_;simp [g.mu,go_sem];refine zh2 fun R hn hr hx=>?_;simp [g.sn,g.so,go_sem];refine hx _ _ ?_;simp [go_sem]
theorem z5k (k:Int):SpM P F.jd [.sl [],.int .i64 0,.int .i64 0,.int .i64 k,.fn F.bt []] 0 6 [] (.pure (.tup [])):=by refine SpM.of_vm c.jd (by simp) rfl rfl ?_;simp [g.jd,go_sem];refine zh2 fun R hn hr hx=>?_;simp [g.sk,go_sem];refine zfw z58 (by simp [go_sem]) rfl rfl (by simp) rfl rfl rfl rfl rfl (by simp [go_sem]) ?_;simp [go_sem];exact hr _ (by simp [go_sem])
theorem Ex.cmp_lex (x y:Ex):x.cmp y<0 ↔ x.a<y.a\/(x.a=y.a/\(x.b<y.b\/(x.b=y.b/\x.c<y.c))):=by
 unfold Ex.cmp
 repeat' split
 all_goals omega
def sD (x:PV):Prop:=∃ m:GMono,x=enc m
def sX:PV->Ex
 | .agg (.int _ a::.int _ b::.int _ c::_)=>⟨a,b,c⟩
 | _=>⟨0,0,0⟩
theorem ycz (m:GMono):sX (enc m)=m.e:=rfl
theorem Ex.ext' {x y:Ex} (h1:¬ x.cmp y<0) (h2:¬ y.cmp x<0):x=y:=by rw [Ex.cmp_lex] at h1 h2;cases x; cases y; simp only [Ex.mk.injEq] at *; omega
theorem z4o (l l':List GMono) (hl:l.length<=1073741824) (hk:(l.map (·.e)).Nodup) (hp:l'.Perm l) (hs:l'.Pairwise fun x y=>y.e.cmp x.e<0):SpM P F.db [.sl (ens l),.fn F.bt []] 0 6 (ens l') (.pure (.tup [])):=by
 have hfn:=zj9 c.db;have hgn:=zj9 c.bt;cases l with
 | nil =>
  have:l'=[]:=List.Perm.eq_nil hp;subst this;refine SpM.of_vm c.db (by simp) rfl rfl ?_;simp [g.db,go_sem];refine zaa yab rfl ?_;simp [go_sem];refine zfw (z5k 0) (by simp [go_sem]) rfl rfl (by simp) rfl rfl rfl rfl rfl (by simp [go_sem]) ?_;simp [go_sem]
 | cons m l =>
  have hnd:∀ x y:GMono,x∈m::l->y∈m::l->x.e=y.e->x=y:=fun x y hx hy he=>by obtain ⟨i,hi⟩:=List.getElem?_of_mem hx;obtain ⟨j,hj⟩:=List.getElem?_of_mem hy;obtain ⟨i1,i2⟩:=List.getElem?_eq_some_iff.1 hi;obtain ⟨j1,j2⟩:=List.getElem?_eq_some_iff.1 hj;have:i=j:=(List.getElem_inj (h₀ := by simpa using i1) (h₁ := by simpa using j1) hk).1 (by simp only [List.getElem_map,i2,j2,he]);subst this; rw [<- i2,<- j2]
  refine yg7.spM hfn (by decide) (D:=sD) (c:=fun x y=>(sX y).cmp (sX x)) hgn ?_ ?_ ?_ ?_ (by simp [ens]) (by simp only [zkb]; omega) ?_ ?_ ?_
  ·rintro _ _ ⟨x,rfl⟩ ⟨y,rfl⟩; exact yho x y
  ·rintro _ ⟨x,rfl⟩; rw [Ex.cmp_lex]; omega
  ·rintro _ _ _ ⟨x,rfl⟩ ⟨y,rfl⟩ ⟨z,rfl⟩ h1 h2; simp only [Ex.cmp_lex] at *; omega
  ·rintro _ _ _ ⟨x,rfl⟩ ⟨y,rfl⟩ ⟨z,rfl⟩ h1 h2; simp only [Ex.cmp_lex] at *; omega
  ·intro e he; obtain ⟨x,_,rfl⟩:=yj3.1 he; exact ⟨x,rfl⟩
  ·intro e he; exact zzm _ e he
  ·intro l0 h0 hs0;have hpe:(ens l').Perm (ens (m::l)):=hp.map _;refine List.Perm.eq_of_pairwise (le:=fun x y=>¬ (sX x).cmp (sX y)<0) (fun a b ha hb h1 h2=>?_) hs0 ?_ (h0.trans hpe.symm)
   ·obtain ⟨x,hx,rfl⟩:=yj3.1 (h0.mem_iff.1 ha);obtain ⟨y,hy,rfl⟩:=yj3.1 (hpe.mem_iff.1 hb);have:=hnd x y hx hy (Ex.ext' h1 h2);rw [this]
   ·rw [ens,ylv];refine hs.imp fun {x y} h=>?_;simp only [ycz,Ex.cmp_lex] at *
    omega
def nzm (p:Ex × GRat):Option GMono:=if p.2.v≠0 then some ⟨p.1,p.2⟩ else none
def nz (L:List (Ex × GRat)):List GMono:=L.filterMap nzm
def nzAt (L:List (Ex × GRat)) (j:Nat):Option GMono:=L[j]?.bind nzm
theorem zg7 {α β : Type} (f : α -> Option β):∀ (L:List α),(List.range L.length).filterMap (fun j=>L[j]?.bind f)=L.filterMap f
 | []=>rfl
 | x::L=>by
  rw [ykq,List.range_succ_eq_map,yl2];have h:(List.map Nat.succ (List.range L.length)).filterMap (fun j=>(x::L)[j]?.bind f)=L.filterMap f:=by rw [List.filterMap_map,<- zg7 f L];rfl
  simp only [List.getElem?_cons_zero,Option.bind_some,h,yl2]
theorem z5n (L:List (Ex × GRat)):(List.range L.length).filterMap (nzAt L)=nz L:=zg7 nzm L
theorem zo5 {j:Nat} {Lf:List Nat} (hj:j∈Lf):∀ {R:List Nat},R.Nodup->(R.filter fun i=>i∉Lf.filter fun i => !decide (i=j)).Perm ((if j∈R then [j] else [])++R.filter fun i=>i∉Lf)
 | [],_=>by simp
 | x::R,h=>by
  obtain ⟨h1,h2⟩:=ykg.1 h;have ih:=zo5 hj h2;by_cases hx:x=j
  ·subst hx;have e1:decide (x∉Lf.filter fun i => !decide (i=x))=true:=by simp
   have e2:decide (x∉Lf)=false:=by simp [hj]
   rw [yj0 h1] at ih;simp only [yl3,e1,e2,ykr,yjw,yj9,true_or,yjg,List.singleton_append,List.nil_append] at ih ⊢;exact ih.cons x
  ·have hm:(j∈x::R) ↔ j∈R:=by simp [yka hx]
   simp only [hm];by_cases hf:x∈Lf
   ·have e1:decide (x∉Lf.filter fun i => !decide (i=j))=false:=by simp [hf,hx]
    have e2:decide (x∉Lf)=false:=by simp [hf]
    simp only [yl3,e1,e2,ykr,yjw];exact ih
   ·have e1:decide (x∉Lf.filter fun i => !decide (i=j))=true:=by simp [hf]
    have e2:decide (x∉Lf)=true:=by simp [hf]
    simp only [yl3,e1,e2,yjg];exact (ih.cons x).trans List.perm_middle.symm
theorem z92 {L:List (Ex × GRat)} {Lf:List Nat} {j:Nat} (hj:j∈Lf) (hl:j<L.length) {acc:List GMono} (h:acc.Perm (((List.range L.length).filter fun i=>i∉Lf).filterMap (nzAt L))) :
  (match nzAt L j with|some m=>acc++[m]|none=>acc).Perm (((List.range L.length).filter fun i=>i∉Lf.filter fun i => !decide (i=j)).filterMap (nzAt L)):=by
 have h1:=(zo5 hj (R:=List.range L.length) List.nodup_range).filterMap (nzAt L);rw [yj1 (yjk.2 hl),List.singleton_append,yl2] at h1;refine List.Perm.trans ?_ h1.symm;cases nzAt L j with
 | none=>exact h
 | some m=>exact (List.perm_append_comm (l₁ := acc) (l₂ := [m])).trans (h.cons m)
theorem zpz {L:List (Ex × GRat)} (h:(L.map (·.1)).Nodup):((nz L).map (·.e)).Nodup:=by
 have hsub:∀ L:List (Ex × GRat),((nz L).map (·.e)).Sublist (L.map (·.1)):=by
  intro L
  induction L with
  | nil=>exact List.Sublist.refl _
  | cons p L ih =>
   simp only [nz,yl2,nzm] at ih ⊢;split
   ·rename_i hn;exact ih.cons _
   ·rename_i m hm;split at hm
    ·cases hm; exact ih.cons_cons _
    ·cases hm
 exact (hsub L).nodup h
def lsS (r':Nat) (acc:List GMono):St:=mkSt [(3,.own 1 0 0 acc.length),(7,.p (.itv r'))] [(1,⟨6,avs acc⟩)]
def lsI (r' r:Nat) (L:List (Ex × GRat)) (n:Nat) (s:St) (B:Option FA):Prop:=∃ acc Lf cur,Weak s (lsS r' acc)/\B=some (itFA r' r (mks L) (mvs L) Lf cur)/\Lf.length=n/\acc.length+Lf.length<=L.length/\acc.Perm (((List.range L.length).filter fun i=>i∉Lf).filterMap (nzAt L))
def lsE (r':Nat) (L:List (Ex × GRat)) (ex:Exit) (s:St):Prop:=ex=.exit 0/\∃ acc,Weak s (lsS r' acc)/\acc.Perm (nz L)/\acc.length<=L.length
theorem zob (r:Nat) (L:List (Ex × GRat)) (hL:∀ p∈L,p.2.sm 4194304) (hkn:(L.map (·.1)).Nodup) (hlen:L.length<=1000000) (l':List GMono) (hp:l'.Perm (nz L)) (hs:l'.Pairwise fun x y=>y.e.cmp x.e<0) :
  Sp P F.fg [.mp r (mks L) (mvs L)] (.fresh 6 (ens l')):=by
 refine Sp.of_mr c.fg (by simp) ?_;unfold g.fg;generalize hP:(fun ex s (_:Option FA)=>retP [(2,none)] (RV.fresh 6 (ens l')) ex s)=Post;refine MR.gseq ?_;simp [go_sem];refine MR.gseq ?_;simp [go_sem];refine MR.gseq' (MR.gseq' (MR.greg (zlj 1 [[0],[6]] ?_)));simp [go_sem];refine MIns.cons (z1j ty.map (by rfl) fun r'=>?_);refine ze0 [] ?_;simp [go_sem];refine MR.gblk (MR.mono (MR.gloop (Post:=fun ex s B=>lsE r' L ex s) (I:=lsI r' r L) L.length ?_ ?_) ?_)
 ·refine ⟨[],List.range L.length,none,?_,by simp [mks],by simp,by simp,?_⟩
  ·exact Weak.nl 3 1 6 rfl (Weak.to [3,7] [((1,0),1)] (by simp [lsS,mkSt,go_sem]))
  ·have:(List.range L.length).filter (fun i=>i∉List.range L.length)=[]:=by rw [List.filter_eq_nil_iff]; intro a ha; simp at ha ⊢; exact ha
   rw [this]; exact List.Perm.refl _
 ·rintro n s B ⟨acc,Lf,cur,hw,rfl,hn,hac,hperm⟩;refine MR.weak hw ?_;unfold g.sa;refine MR.gseq' (MR.greg (MIns.cons (z5s rfl (fun h0=>?_) (fun j hj kv vv hkv hvv=>?_))))
  ·refine ze0 [[8]] ?_;simp [go_sem];refine MR.gseq' (MR.gcond (t:=false) rfl (fun h=>by cases h) (fun _=>MR.gext ⟨fun h=>(by cases h),fun _=>⟨fun h=>(by cases h),fun _=>⟨rfl,acc,?_,?_,by omega⟩⟩⟩))
   ·exact Weak.to [3,7] [((1,0),1)] (by simp [lsS,mkSt,go_sem])
   ·subst h0;have e:(List.range L.length).filter (fun i=>decide (i∉([]:List Nat)))=List.range L.length:=List.filter_eq_self.2 (by simp);rw [e,z5n] at hperm; exact hperm
  ·obtain ⟨p,hpj,rfl,rfl⟩:∃ p:Ex × GRat,L[j]?=some p/\kv=enc p.1/\vv=enc p.2:=by simp only [mks,yjh,Option.map_eq_some_iff] at hkv;obtain ⟨p,h1,rfl⟩:=hkv;simp only [mvs,yjh,h1,yl4,Option.some.injEq] at hvv;exact ⟨p,h1,rfl,hvv.symm⟩
   have hjl:=(yl5.1 hpj).1;refine ze0 [[8]] ?_;simp [go_sem];refine MR.gseq' (MR.gcond (t:=true) rfl (fun _=>MR.gnop ⟨fun _=>?_,fun h=>absurd rfl h⟩) (fun h=>by cases h));refine MR.gblk (MR.gseq' (MR.greg (MIns.cons (z1k rfl hkv hvv ?_))));refine ze0 [[],[10],[],[],[11],[12]] ?_;simp [lsS,mkSt,go_sem];refine MR.of_vm ?_;simp [go_sem];refine zaa (zle p.2 (hL p (ylw hpj))) rfl ?_;have hstep:=z92 hj hjl hperm;have hlt:(Lf.filter fun i => !decide (i=j)).length<Lf.length:=by refine Nat.lt_of_le_of_ne (yjp _ _) fun h=>?_;have:=(List.length_filter_eq_length_iff.1 h) j hj;simp at this
   by_cases hz:p.2.v=0
   ·have hsg:sgnR p.2.v=0:=(zfi _).2 hz;simp [go_sem,hsg];have hnz:nzAt L j=none:=by simp [nzAt,hpj,nzm,hz]
    rw [hnz] at hstep;exact ⟨fun _=>⟨_,by rw [<- hn]; exact hlt,acc,_,_,Weak.to [3,7] [((1,0),1)] (by simp [lsS,mkSt,go_sem]),rfl,rfl,by omega,hstep⟩,fun h=>absurd rfl h⟩
   ·have hsg:sgnR p.2.v≠0:=fun h=>hz ((zfi _).1 h);simp [go_sem,hsg];have hnz:nzAt L j=some ⟨p.1,p.2⟩:=by simp [nzAt,hpj,nzm,hz]
    rw [hnz] at hstep;exact ⟨by omega,fun _=>⟨_,by rw [<- hn]; exact hlt,acc++[⟨p.1,p.2⟩],_,_,Weak.to [3,7] [((21,0),1)] (by simp [lsS,mkSt,go_sem]),rfl,rfl,by simp; omega,hstep⟩,fun h=>absurd rfl h⟩
 ·rintro ex s B ⟨rfl,acc,hw,hperm,hac⟩;refine ⟨fun _=>?_,fun h=>absurd rfl h⟩;refine MR.weak hw (MR.of_vm ?_);simp [lsS,mkSt,go_sem];subst hP;have hkn':(acc.map (·.e)).Nodup:=(hperm.map _).nodup_iff.2 (zpz hkn);have hll:l'.length=acc.length:=(hp.trans hperm.symm).length_eq;refine zfw (z4o acc l' (by omega) hkn' (hp.trans hperm.symm) hs) (by simp [go_sem]) rfl rfl (by simp) (by simp [go_sem]) (by simp [go_sem,hll]) rfl (zea _ _ rfl) (cells_one (fun _=>rfl) _) (by simp [go_sem]) ?_;simp [go_sem,hll]
theorem zR_v:zR.v=0:=zi8
structure MInv (ms:List GMono) (L:List (Ex × GRat)):Prop where
 tot:∀ e,(zh8 e L).v=pc ms e
 val:∀ e c,mget e L=some c->c=rto (pc ms e)/\∃ m∈ms,m.e=e
 nod:(L.map (·.1)).Nodup
 len:L.length<=ms.length
theorem zwe {κ α : Type} [DecidableEq κ] (e : κ) (c : α):∀ L:List (κ × α),(mset e c L).length<=L.length+1
 | []=>by simp [mset]
 | (e',c')::L=>by have:=zwe e c L;simp only [mset]; split<;>simp<;>omega
theorem zmq {κ α : Type} [DecidableEq κ] {e : κ} {c : α}:∀ {L:List (κ × α)},(L.map (·.1)).Nodup->(e,c)∈L->mget e L=some c
 | (e',c')::L,hn,h=>by
  obtain ⟨h1,h2⟩:=ykg.1 hn;simp only [mget];rcases yj9.1 h with h|h
  ·cases h; simp
  ·have:e'≠e:=by rintro rfl; exact h1 (yj3.2 ⟨_,h,rfl⟩)
   rw [yj0 this]; exact zmq h2 h
theorem MInv.step {ms:List GMono} {L:List (Ex × GRat)} (h:MInv ms L) (m:GMono):MInv (ms++[m]) (madd m L):=by
 have hpc:∀ e,pc (ms++[m]) e=pc ms e+if m.e=e then m.coef.v else 0:=fun e=>by rw [zfm]; simp [pc,yjm]
 refine ⟨fun e=>?_,fun e c hc=>?_,zx7 _ _ h.nod,?_⟩
 ·rw [hpc];simp only [zh8,madd,zmr];split
  ·rename_i he; subst he;simp only [yks,zbt];have:=h.tot m.e; simp only [zh8] at this; rw [this]
  ·rw [yjm]; exact h.tot e
 ·simp only [madd,zmr] at hc;rw [hpc];split at hc
  ·rename_i he; subst he;cases hc;exact ⟨by rw [h.tot,yj1 rfl],m,by simp,rfl⟩
  ·rename_i he;obtain ⟨q1,x,q2,q3⟩:=h.val e c hc;exact ⟨by rw [yj0 he,yjm]; exact q1,x,by simp [q2],q3⟩
 ·have:=zwe m.e (rto ((zh8 m.e L).v+m.coef.v)) L;have:=h.len;simp only [madd,ylx,List.length_singleton]; omega
def zfp (ms:List GMono) (L:List (Ex × GRat)):List (Ex × GRat):=ms.foldl (fun L m=>madd m L) L
theorem MInv.fold:∀ (ms':List GMono) {ms:List GMono} {L:List (Ex × GRat)},MInv ms L->MInv (ms++ms') (zfp ms' L)
 | [],ms,L,h=>by simpa [zfp] using h
 | m::ms',ms,L,h=>by have:=MInv.fold ms' (h.step m);simpa [zfp] using this
theorem MInv.nil:MInv [] []:=⟨fun e=>zR_v,fun e c h=>(by cases h),by simp,by simp⟩
theorem minv (ms:List GMono):MInv ms (zfp ms []):=by simpa using MInv.fold ms MInv.nil
theorem MInv.mem {ms:List GMono} {L:List (Ex × GRat)} (h:MInv ms L) {p:Ex × GRat} (hp:p∈L):p.2=rto (pc ms p.1)/\∃ m∈ms,m.e=p.1:=h.val p.1 p.2 (zmq h.nod hp)
theorem z02 {p q:List GMono} (h:p.Perm q) (e:Ex):pc p e=pc q e:=by
 induction h with
 | nil=>rfl
 | cons x _ ih=>simp only [pc,ih]
 | swap x y l=>simp only [pc]; rw [<- Rat.add_assoc,<- Rat.add_assoc,ykh (if y.e=e then y.coef.v else 0)]
 | trans _ _ ih1 ih2=>rw [ih1,ih2]
theorem zt5 {L:List (Ex × GRat)} {m:GMono} (h:m∈nz L):(m.e,m.coef)∈L/\m.coef.v≠0:=by
 obtain ⟨p,hp,h⟩:=List.mem_filterMap.1 h;unfold nzm at h;split at h
 ·rename_i hz; cases h; exact ⟨hp,hz⟩
 ·cases h
theorem z9t:∀ {L:List (Ex × GRat)} (e:Ex),(L.map (·.1)).Nodup->pc (nz L) e=(zh8 e L).v
 | [],e,_=>by simp [nz,pc,zh8,mget,zR_v]
 | (e1,c1)::L,e,h=>by
  obtain ⟨h1,h2⟩:=ykg.1 h;have ih:=z9t (L:=L) e h2;have hcons:nz ((e1,c1)::L)=if c1.v≠0 then ⟨e1,c1⟩::nz L else nz L:=by simp only [nz,yl2,nzm]; split<;>split<;>simp_all
  rw [hcons];simp only [zh8,mget];by_cases he:e1=e
  ·subst he;have hz:pc (nz L) e1=0:=zh5 fun m hm hme=>h1 (yj3.2 ⟨_,(zt5 hm).1,hme⟩);split
   ·simp [pc,hz,yjm]
   ·rename_i hc; simp at hc; simp [hz,hc]
  ·simp only [yj0 he];simp only [zh8] at ih;split
   ·simp [pc,he,ih,Rat.zero_add]
   ·exact ih
theorem z03 {p q:List GMono} (hp:PVal p) (hq:PVal q) {L:List (Ex × GRat)} (h:MInv (p++q) L):(padd p q).Perm (nz L):=by
 have hok:∀ m∈p++q,m.ok=true:=fun m hm=>by
  rcases yjx.1 hm with h|h
  ·exact (zak.1 hp).1 m h
  ·exact (zak.1 hq).1 m h
 have hnok:∀ m∈nz L,m.ok=true:=fun m hm=>by obtain ⟨h1,h2⟩:=zt5 hm;obtain ⟨h3,x,h4,h5⟩:=h.mem h1;simp only at h3 h5;refine GMono.ok_iff.2 ⟨?_,by rw [h3]; exact zbx _,h2⟩;rw [<- h5]; exact (GMono.ok_iff.1 (hok x h4)).1
 let le:GMono->GMono->Bool:=fun a b=>decide (b.e.code<=a.e.code)
 have hperm:((nz L).mergeSort le).Perm (nz L):=List.mergeSort_perm _ _;have hsort:((nz L).mergeSort le).Pairwise fun a b=>le a b=true:=List.pairwise_mergeSort (fun a b c h1 h2=>by simp only [le,decide_eq_true_eq] at *; omega) (fun a b=>by simp only [le,Bool.or_eq_true,decide_eq_true_eq]; omega) _;have hnd:(((nz L).mergeSort le).map (·.e)).Nodup:=(hperm.map _).nodup_iff.2 (zpz h.nod);have hval:PVal ((nz L).mergeSort le):=by
  refine zak.2 ⟨fun m hm=>hnok m (hperm.mem_iff.1 hm),?_⟩;have h2:((nz L).mergeSort le).Pairwise fun a b=>a.e≠b.e:=List.pairwise_map.1 hnd;refine (hsort.and h2).imp_of_mem fun {a b} ha hb hab=>?_;have oa:=(GMono.ok_iff.1 (hnok a (hperm.mem_iff.1 ha))).1;have ob:=(GMono.ok_iff.1 (hnok b (hperm.mem_iff.1 hb))).1;have h3:b.e.code<=a.e.code:=by simpa [le] using hab.1
  have h4:b.e.code≠a.e.code:=fun he=>hab.2 ((Ex.code_inj ob oa).1 he).symm;omega
 have:padd p q=(nz L).mergeSort le:=by refine zhl (zcg q hp) hval fun e=>?_;rw [zfa p (zak.1 hq).1,z02 hperm,z9t e h.nod,h.tot,zfm]
 rw [this]; exact hperm
theorem zt0 {p q:List GMono} (hp:PVal p):(padd p q).Pairwise fun x y=>y.e.cmp x.e<0:=by have hv:=zak.1 (zcg q hp);refine hv.2.imp_of_mem fun {a b} ha hb h=>?_;exact (Ex.cmp_neg (GMono.ok_iff.1 (hv.1 b hb)).1 (GMono.ok_iff.1 (hv.1 a ha)).1).2 h
theorem MInv.sm {p q:List GMono} {n:Nat} (hp:PVal p) (hq:PVal q) (sp:psm p n) (sq:psm q n) (hn:1<=n) {L:List (Ex × GRat)} (h:MInv (p++q) L):∀ x∈L,x.1.ok=true/\x.2.sm (n+n+1):=by
 intro x hx;obtain ⟨h1,m,h2,h3⟩:=h.mem hx;refine ⟨?_,?_⟩
 ·rw [<- h3];rcases yjx.1 h2 with h|h
  ·exact (GMono.ok_iff.1 ((zak.1 hp).1 m h)).1
  ·exact (GMono.ok_iff.1 ((zak.1 hq).1 m h)).1
 ·have ga:∀ {p:List GMono},PVal p->psm p n->∃ a:GRat,a.sm n/\a.v=pc p x.1:=fun {p} hv sp=>by
   rcases zix hv x.1 with h|⟨y,hy,h⟩
   ·exact ⟨gr0,zg4 n,by rw [zi8,h]⟩
   ·exact ⟨y.coef,sp y hy,h.symm⟩
  obtain ⟨a,a1,a2⟩:=ga hp sp;obtain ⟨b,b1,b2⟩:=ga hq sq;rw [h1,zfm,<- a2,<- b2];exact zju a1 b1 hn hn
def paS (r:Nat) (ms:List GMono) (k:Nat):St:=mkSt [(5,.p (.mapv r)),(14,.own 1 0 0 ms.length),(15,.p (.int .i64 ms.length)),(16,.p (.int .i64 k))] [(1,⟨6,avs ms⟩)]
def paB (r:Nat) (ms:List GMono):Option FA:=some (zhy r (mks (zfp ms [])) (mvs (zfp ms [])))
def paI (r:Nat) (ms:List GMono) (n:Nat) (s:St) (B:Option FA):Prop:=∃ k,k<=ms.length/\n=ms.length - k/\Weak s (paS r ms k)/\B=paB r (ms.take k)
def paE (r:Nat) (ms:List GMono) (ex:Exit) (s:St) (B:Option FA):Prop:=ex=.exit 0/\Weak s (paS r ms ms.length)/\B=paB r ms
theorem zx9 (ms:List GMono) (m:GMono):zfp (ms++[m]) []=madd m (zfp ms []):=by simp [zfp]
def paR:GC:=.seq (.reg [⟨some 27,.mv (.t 5),none⟩,⟨some 28,.call F.fg [.t 27],none⟩,⟨some 4,.mv (.t 28),none⟩] [[5,14,15,16],[27],[28]])
 (.ret)
theorem z04 (r:Nat) (p q:List GMono) (n:Nat) (vp:PVal p) (vq:PVal q) (sp:psm p n) (sq:psm q n) (hn1:1<=n) (hn:n<=400000) (lp:p.length<=100000) (lq:q.length<=100000) {s:St} (hw:Weak s (paS r (p++q) 0)) :
  MR P 29 (GC.blk 0 (.loop g.o5)).er s (paB r []) fun ex s B=>(ex=.normal->MR P 29 paR.er s B fun ex s _=>retP [(4,none)] (RV.pure (.sl (ens (padd p q)))) ex s)/\(ex ≠ .normal->retP [(4,none)] (RV.pure (.sl (ens (padd p q)))) ex s):=by
 have hlen:(p++q).length<=200000:=by simp; omega
 have hokm:∀ m∈p++q,m.e.ok=true/\m.coef.sm n:=fun m hm=>by
  rcases yjx.1 hm with h|h
  ·exact ⟨(GMono.ok_iff.1 ((zak.1 vp).1 m h)).1,sp m h⟩
  ·exact ⟨(GMono.ok_iff.1 ((zak.1 vq).1 m h)).1,sq m h⟩
 have hinv:∀ k,∀ x∈zfp ((p++q).take k) [],x.1.ok=true/\x.2.sm 1048576:=fun k x hx=>by have h:=minv ((p++q).take k);have e:(p++q).take k=p.take k++q.take (k - p.length):=List.take_append;rw [e] at h hx;obtain ⟨h1,h2⟩:=h.sm (vp.take k) (vq.take _) (fun m hm=>sp m (yki hm)) (fun m hm=>sq m (yki hm)) hn1 x hx;exact ⟨h1,h2.mono (by omega)⟩
 have hfin:=minv (p++q);have hsm:=hinv (p++q).length;rw [yjq] at hsm;have hperm:=z03 vp vq hfin;have hsort:=zt0 (p:=p) (q:=q) vp;generalize hms:p++q=ms at *
 refine MR.gblk (MR.mono (MR.gloop (Post:=paE r ms) (I:=paI r ms) ms.length ⟨0,by omega,by omega,hw,rfl⟩ ?_) ?_)
 ·rintro n0 s B ⟨k,hk,rfl,hw,rfl⟩;refine MR.weak hw ?_;unfold g.o5;refine MR.gseq ?_;simp [paS,mkSt,go_sem];by_cases hlt:k<ms.length
  ·refine MR.gseq' (MR.gcond (t:=true) (by simp [go_sem,hlt]) (fun _=>MR.gnop ⟨fun _=>?_,fun h=>absurd rfl h⟩) (fun h=>by cases h));simp [go_sem];refine MR.gseq' (MR.gblk (MR.gseq ?_));simp [go_sem];refine ⟨hlt,zae hlt ?_⟩;have hmk:=hokm ms[k] (yj2 hlt);refine MR.greg (zlj 5 [[],[],[21],[7],[23]] ?_);simp [go_sem];refine MIns.cons (zr8 (args:=[enc ms[k].e,enc ms[k].coef]) (zrg ms[k] _ hmk.1 (hmk.2.mono (by omega)) (hinv k)) (by simp [go_sem]) (zp1 _) (zp0 _) ?_);refine ze0 [[20,22,24,25]] ?_;simp [go_sem];refine ⟨fun _=>MR.of_vm ?_,fun h=>absurd rfl h⟩;have e3:=i64s k (by omega);simp [go_sem,e3];refine ⟨_,?_,k+1,by omega,rfl,Weak.to [5,14,15,16] [((1,0),1)] (by simp [paS,mkSt,go_sem]),?_⟩
   ·omega
   ·simp only [paB]; rw [yj7 hlt,zx9]
  ·have hk':k=ms.length:=by omega
   refine MR.gseq' (MR.gcond (t:=false) (by simp [go_sem,hlt]) (fun h=>by cases h) (fun _=>MR.gext ⟨fun h=>(by cases h),fun _=>⟨fun h=>(by cases h),fun _=>⟨rfl,?_,?_⟩⟩⟩))
   ·exact Weak.to [5,14,15,16] [((1,0),1)] (by simp [paS,mkSt,go_sem,hk'])
   ·rw [hk',yjq]
 ·rintro ex s B ⟨rfl,hw,rfl⟩;refine ⟨fun _=>?_,fun h=>absurd rfl h⟩;refine MR.weak hw (MR.freeze (t:=5) rfl ?_);refine MR.of_vm ?_;simp [paR,paS,mkSt,go_sem];have hpl:=zv5 p q;refine zct (zob r (zfp ms []) (fun x hx=>(hsm x hx).2.mono (by omega)) hfin.nod (by have:=hfin.len; omega) (padd p q) hperm hsort) (by simp [go_sem]) ⟨zea _ _ rfl,by decide,by simp [ens,LIM]; omega⟩ _ rfl ?_;simp [go_sem,killAll]
theorem zxz (p q:List GMono) (n:Nat) (sp:psm p n) (sq:psm q n) (hn1:1<=n) (hn:n<=400000) (lp:p.length<=100000) (lq:q.length<=100000) :
  Sp P F.lx [.sl (ens p),.sl (ens q)] (.pure (.sl (ens (padd (pv p) (pv q))))):=by
 refine Sp.of_mr c.lx (by simp) ?_;unfold g.lx;generalize hP:(fun ex s (_:Option FA)=>retP [(4,none)] (RV.pure (.sl (ens (padd (pv p) (pv q))))) ex s)=Post;have vp:=z7r p;have vq:=z7r q;have s1:=z7s sp;have s2:=z7s sq;have l1:=z7t p;have l2:=z7t q;refine MR.gseq ?_;simp [go_sem];refine MR.gseq' (MR.greg (MIns.cons (zmp fun r=>?_)));refine ze0 [[8]] ?_;simp [go_sem];refine MR.gseq' (MR.gseq ?_);simp [go_sem];refine zaa (ziv p (sp.mono (by omega)) (by omega)) rfl ?_;simp [go_sem];refine zaa (ziv q (sq.mono (by omega)) (by omega)) rfl ?_;simp [go_sem];refine zct (z29 (pv p) (pv q) (by omega)) (by simp [go_sem]) ⟨zea _ _ rfl,by decide,by simp [ens,LIM]; omega⟩ _ rfl ?_;cases hfl:(ens (pv p++pv q)).all PV.flat
 ·simp [go_sem,killAll];subst hP;refine z04 r (pv p) (pv q) n vp vq s1 s2 hn1 hn (by omega) (by omega) ?_;exact Weak.to [5,14,15,16] [((14,0),1)] (by simp [paS,mkSt,go_sem])
 ·simp [go_sem];subst hP;refine z04 r (pv p) (pv q) n vp vq s1 s2 hn1 hn (by omega) (by omega) ?_;exact Weak.to [5,14,15,16] [((14,0),1)] (by simp [paS,mkSt,go_sem])
end Go.Ab
namespace Go.Ab
open Enc (enc)
attribute [local go_sem] zal Opd.slots
theorem GRat.sm.monoR {x:GRat} {m n:Nat} (h:x.sm m) (k:m<=n):x.sm n:=⟨yj6 h.1 k,yj6 h.2 k⟩
theorem psm.monoR {p:List GMono} {m n:Nat} (h:psm p m) (k:m<=n):psm p n:=fun x hx=>(h x hx).monoR k
theorem GW.sm.mono {m n:Nat} (k:m<=n):∀ w:GW,w.sm m->w.sm n:=by
 refine GW.sm.ind fun v hv ih=>?_;cases v with
 | mk q c i s p ps=>exact .mk (hv.q.monoR k) (hv.poly.monoR k) (yj6 hv.len k) (yj6 hv.plen k) ih
theorem GW.sm.one (k:Int) {n:Nat} {q:GRat} {c:Int} {i:Bool} {s:UInt64} {p:List GMono} (hq:q.sm n) (hp:psm p n) (hl:p.length<=n):(GW.mk q c i s p []).sm n:=.mk hq hp hl (by simp) (by simp)
theorem zmb (n:Nat):psm [] n:=by intro m hm; simp at hm
theorem zvx {k:Int} {v w:GW} {m n:Nat} (hv:v.sm m) (hw:w.sm n) (cv:v.chk ⟨k,[]⟩) (cw:w.chk ⟨k,[]⟩) (hm:1<=m) (hn:1<=n):(zaq k v w).sm (m+n+1):=by
 unfold zaq;have hv':=hv.mono (show m<=m+n+1 by omega);have hw':=hw.mono (show n<=m+n+1 by omega);split
 ·exact .one 0 (zju hv.q hw.q hm hn) (zmb _) (by simp)
 ·split
  ·split
   ·exact hw'
   ·exact hv'
  ·split
   ·split
    ·exact hw'
    ·exact hv'
   ·split
    ·exact .one 0 (zg4 _) (zmb _) (by simp)
    ·exact .one 0 (zg4 _) (z9u (zn5 cv) (zn5 cw) hv.poly hw.poly hm hn) (by have:=zv5 v.poly w.poly; have:=hv.len; have:=hw.len; omega)
theorem zdu {a b:Nat} (h:a<=b):4294967296^a<=4294967296^b:=yl6 (by omega) h
theorem z5f (v w:GW) (n:Nat) (hv:v.sm n) (hw:w.sm n) (hn:n<=2000) (hn1:1<=n) (cv:v.chk ⟨5,[]⟩) (cw:w.chk ⟨5,[]⟩):Sp P F.aa [enc (⟨5,[]⟩:GRing),enc v,enc w] (.pure (enc (zaq 5 v w))):=by
 have pv:=zn5 cv;have pw:=zn5 cw;have h1:=zvu pv hv.poly hn1 (zho w.poly);have h2:=zvu pw hw.poly hn1 (zho v.poly);rw [ylh (pden w.poly)] at h2;have hl1:=zbl pv;have hl2:=zbl pw;have d1:=ztx hv.poly hn1;have d2:=ztx hw.poly hn1;have hD:pden v.poly*pden w.poly<4294967296^(434*n+2):=by refine yk0 (yl7 d1 d2) ?_;rw [<- Nat.pow_add];refine zdu ?_;have e1:n*v.poly.length<=n*216:=yk3 _ hl1;have e2:n*w.poly.length<=n*216:=yk3 _ hl2;omega
 have hB:4294967296^n*(pden v.poly*pden w.poly)<4294967296^(435*n+2):=by
  have:435*n+2=n+(434*n+2):=by omega
  rw [this,yjt];exact Nat.mul_lt_mul_of_pos_left hD (yl8 (by omega))
 have hD0:pden v.poly*pden w.poly≠0:=Nat.mul_ne_zero (zho _) (zho _);have hD':=yk0 hD (zdu (show 434*n+2<=1048576 by omega));have hB':=yk0 (zlw _ _ _ hB hB) (zdu (show 435*n+2+1<=1048576 by omega));exact z0q v w (hv.mono (by omega)) (hw.mono (by omega)) cv cw _ _ _ h1 h2 hD0 hD' hB'
theorem zv0 (k:Int) (hk:1<=k/\k<=5) (v w:GW) (n:Nat) (hv:v.sm n) (hw:w.sm n) (hn:n<=2000) (hn1:1<=n) (cv:v.chk ⟨k,[]⟩) (cw:w.chk ⟨k,[]⟩) :
  Sp P F.aa [enc (⟨k,[]⟩:GRing),enc v,enc w] (.pure (enc (zaq k v w))):=by
 have hv':=hv.mono (show n<=1048576 by omega);have hw':=hw.mono (show n<=1048576 by omega);have:k=1\/k=2\/k=3\/k=4\/k=5:=by omega
 rcases this with rfl|rfl|rfl|rfl|rfl
 ·exact z0u v w hv' hw' cv cw
 ·exact z0t v w hv' hw' cv cw
 ·exact z0s v w hv' hw' cv cw
 ·exact z0r v w hv' hw' cv cw
 ·exact z5f v w n hv hw hn hn1 cv cw
def zd3:List Int->List GW->List GW->List GW
 | k::ks,v::vs,w::ws=>zaq k v w::zd3 ks vs ws
 | _,_,_=>[]
def GRing.plus (r:GRing) (v w:GW):GW:=if r.kind=6 then .mk gr0 0 false 0 [] (zd3 r.parts v.parts w.parts) else zaq r.kind v w
theorem zbb:∀ {ks:List Int} {vs ws:List GW},vs.length=ks.length->ws.length=ks.length->(zd3 ks vs ws).length=ks.length
 | [],vs,ws,_,_=>by simp [zd3]
 | k::ks,[],ws,h,_=>by simp at h
 | k::ks,v::vs,[],_,h=>by simp at h
 | k::ks,v::vs,w::ws,h1,h2=>by simp [zd3,zbb (ks:=ks) (vs:=vs) (ws:=ws) (by simpa using h1) (by simpa using h2)]
theorem zbk:∀ {ks:List Int} {vs ws:List GW} {i:Nat} (h:i<ks.length) (h1:i<vs.length) (h2:i<ws.length) (h3:i<(zd3 ks vs ws).length),(zd3 ks vs ws)[i]=zaq ks[i] vs[i] ws[i]
 | k::ks,v::vs,w::ws,0,_,_,_,_=>by simp [zd3]
 | k::ks,v::vs,w::ws,i+1,h,h1,h2,h3=>by simp only [zd3,List.getElem_cons_succ];exact zbk (by simpa using h) (by simpa using h1) (by simpa using h2) (by simpa [zd3] using h3)
theorem z0p (r:GRing) (v w:GW) (hv:v.sm 1048576) (hw:w.sm 1048576) (cv:v.chk r) (cw:w.chk r) (h6:r.kind=6)
  (hpart:∀ i (h:i<r.parts.length) (h1:i<v.parts.length) (h2:i<w.parts.length),Sp P F.aa [enc (⟨r.parts[i],[]⟩:GRing),enc v.parts[i],enc w.parts[i]] (.pure (enc (zaq r.parts[i] v.parts[i] w.parts[i])))) :
  Sp P F.aa [enc r,enc v,enc w] (.pure (enc (r.plus v w))):=by
 have hr0:=cv.1;have hp:=GRing.ok_parts hr0 h6;have t1:v.tk r=v:=yj1 cv;have t2:w.tk r=w:=yj1 cw;have k1:=zay r v (hv.mono (by omega));have k2:=zay r w (hw.mono (by omega));rw [t1] at k1; rw [t2] at k2;have lv:=(cv.2.2 h6).1;have lw:=(cw.2.2 h6).1;have lp:(zd3 r.parts v.parts w.parts).length=r.parts.length:=zbb lv lw;refine Sp.vz c.aa fun _=>?_;simp [g.aa,go_sem];refine zaa (zax r) rfl ?_;simp [hr0,go_sem];refine zab k1 ?_;simp [go_sem];refine zab k2 ?_;simp [go_sem,h6]
 refine zai (S:=fun k:Nat=>mkSt [(3,.ptr 1 0 0 0),(4,.ptr 2 0 0 0),(5,.ptr 3 0 0 0),(6,.ptr 4 0 0 0),(7,.ptr 5 0 0 0),(8,.p (.int .i64 k))]
   [(1,⟨2,[.p (enc r)]⟩),(2,⟨8,[.p (enc v)]⟩),(3,⟨8,[.p (enc w)]⟩),(4,⟨8,[.agg [.p (.bool false),.nil,.nil,.p (.int .i64 0),.p (.bool false),.p (.int .u64 0),.nil,.nil]]⟩),
    (5,⟨8,[.agg [.p (.bool false),.nil,.nil,.p (.int .i64 0),.p (.bool false),.p (.int .u64 0),.nil,.own 6 0 0 k]]⟩),(6,⟨8,avs ((zd3 r.parts v.parts w.parts).take k)⟩)])
  (I:=fun k=>k<=r.parts.length) (m:=fun k=>r.parts.length - k) 0
  ((Weak.nilCell (s0:=7) (g0:=0) (i:=7) (s:=77) (sz:=8) rfl).trans (Weak.to [3,4,5,6,7,8] [((3,0),1),((4,0),2),((5,0),3),((6,0),4),((7,0),5),((77,0),6)] (by simp [go_sem,h6]))) (by omega) ?_
 rintro k h1 R hn' hr hx;have e1:=i64s k (by omega);simp [g.pn,mkSt,go_sem];refine ⟨fun hk=>?_,fun hk=>hx _ _ ?_⟩
 ·have hkv:k<v.parts.length:=by omega
  have hkw:k<w.parts.length:=by omega
  have hpk:=hp.2.2 _ (yj2 hk);refine zaa (ziy r k hk) rfl ?_;simp [go_sem];refine zae hkv ?_
  try simp [go_sem]
  refine zae hkw ?_
  try simp [go_sem]
  refine zab (hpart k hk hkv hkw) ?_;have hkL:k<(zd3 r.parts v.parts w.parts).length:=by omega
  have hts:avs ((zd3 r.parts v.parts w.parts).take (k+1))=avs ((zd3 r.parts v.parts w.parts).take k)++[.p (enc (zaq r.parts[k] v.parts[k] w.parts[k]))]:=by rw [yj7 hkL,zcy,zbk hk hkv hkw hkL]; rfl
  simp [e1,go_sem];exact ⟨⟨by omega,by omega⟩,hn' (k+1) _ (Weak.to [3,4,5,6,7,8] [((1,0),1),((2,0),2),((3,0),3),((4,0),4),((5,0),5),((97,0),6)] (by simp [go_sem,hts])) (by omega) (by omega)⟩
 ·have hk':k=(zd3 r.parts v.parts w.parts).length:=by omega
  have hpl:r.plus v w=.mk gr0 0 false 0 [] (zd3 r.parts v.parts w.parts):=by simp [GRing.plus,h6]
  rw [hpl];subst hk';simp [go_sem]
theorem z5e (r:GRing) (v w:GW) (n:Nat) (hv:v.sm n) (hw:w.sm n) (hn:n<=2000) (hn1:1<=n) (cv:v.chk r) (cw:w.chk r):Sp P F.aa [enc r,enc v,enc w] (.pure (enc (r.plus v w))):=by
 have hr0:=cv.1;by_cases h6:r.kind=6;rotate_left
 ·have hk:=GRing.ok_kind hr0 h6;have he:r=⟨r.kind,[]⟩:=by rw [<- hk.2.2]
  have h1:r.plus v w=zaq r.kind v w:=by simp [GRing.plus,h6]
  rw [h1,he];rw [he] at cv cw;exact zv0 r.kind ⟨hk.1,hk.2.1⟩ v w n hv hw hn hn1 cv cw
 exact z0p r v w (hv.mono (by omega)) (hw.mono (by omega)) cv cw h6 fun i h h1 h2 =>
  zv0 r.parts[i] ((GRing.ok_parts hr0 h6).2.2 _ (yj2 h)) v.parts[i] w.parts[i] n (hv.parts _ (yj2 h1)) (hw.parts _ (yj2 h2)) hn hn1 (zel cv h6 h h1) (zel cw h6 h h2)
end Go.Ab
namespace Go.Ab
open Enc (enc)
theorem z0h (v w:GW) (n:Nat) (hv:v.sm n) (hw:w.sm n) (hn:n<=400000) (hn1:1<=n) (pv':PVal v.poly) (pw:PVal w.poly):Sp P F.fb [enc v,enc w] (.pure (enc (zaq 5 v w))):=by
 have h1:v.poly.length<=100000:=by have:=zbl pv'; omega
 have h2:w.poly.length<=100000:=by have:=zbl pw; omega
 have k:=zxz v.poly w.poly n hv.poly hw.poly hn1 hn h1 h2;rw [znv pv',znv pw] at k;refine Sp.vz c.fb fun _=>?_;simp [g.fb,go_sem];refine zaa k rfl ?_;simp [go_sem,zaq,gr0]
theorem zvz (k:Int) (hk:1<=k/\k<=5) (v w:GW) (n:Nat) (hv:v.sm n) (hw:w.sm n) (hn:n<=400000) (hn1:1<=n) (sv:v.si k) (sw:w.si k):Sp P (kF3 k) (enc v::enc w::kC3 k) (.pure (enc (zaq k v w))):=by
 have:k=1\/k=2\/k=3\/k=4\/k=5:=by omega
 have hv':=hv.mono (show n<=1048576 by omega);have hw':=hw.mono (show n<=1048576 by omega);rcases this with rfl|rfl|rfl|rfl|rfl
 ·exact z47 v w hv' hw'
 ·exact z62 v w sv sw
 ·exact z6e v w hv' hw' sv sw
 ·exact z4r v w
 ·exact z0h v w n hv hw (by omega) hn1 (sv.2.2.2.2.2.2.2.2 rfl) (sw.2.2.2.2.2.2.2.2 rfl)
theorem z9k (r:GRing) (v w:GW) (n:Nat) (hv:v.sm n) (hw:w.sm n) (hn:n<=400000) (hn1:1<=n) (cv:v.chk r) (cw:w.chk r) (h6:r.kind≠6):Sp P F.am [enc r,enc v,enc w] (.pure (enc (zaq r.kind v w))):=by have hr0:=cv.1;have hk:=GRing.ok_kind hr0 h6;have t1:v.tk r=v:=yj1 cv;have t2:w.tk r=w:=yj1 cw;have k1:=zdq r v (hv.mono (by omega));have k2:=zdq r w (hw.mono (by omega));rw [t1] at k1; rw [t2] at k2;refine Sp.vz c.am fun _=>?_;simp [g.am,go_sem];refine zaa (zeo r) rfl ?_;simp [hr0,go_sem];refine zab k1 ?_;simp [go_sem];refine zab k2 ?_;simp [go_sem,h6];obtain ⟨f5,f6,f7,f8,c5,c8,hA⟩:=zek r.kind ⟨hk.1,hk.2.1⟩;refine zaa (zj3 r.kind ⟨hk.1,hk.2.1⟩) rfl ?_;simp [hA,go_sem];refine zaa (zvz r.kind ⟨hk.1,hk.2.1⟩ v w n hv hw hn hn1 (cv.2.1 h6) (cw.2.1 h6)) (zby (by simp [go_sem]) (zby (by simp [go_sem]) (zf7 _ _))) ?_;simp [go_sem]
theorem z0o (k:Int) (hk:1<=k/\k<=5) (v w:GW) (i n:Nat) (iv:i<v.parts.length) (iw:i<w.parts.length) (hi:i<=3) (hv:v.parts[i].sm n) (hw:w.parts[i].sm n) (hn:n<=400000) (hn1:1<=n) (sv:v.parts[i].si k) (sw:w.parts[i].si k) :
  Sp P F.gg [zmz k,.int .i64 i,.ref (enc v),.ref (enc w)] (.pure (enc (zaq k v.parts[i] w.parts[i]))):=by
 obtain ⟨f5,f6,f7,f8,c5,c8,hA⟩:=zek k hk;rw [hA];refine Sp.of_vmW c.gg (by simp) ((Weak.openRef (t:=2) (v:=enc v) (n:=8) (by simp [go_sem]) (by simp [go_sem])).trans (Weak.openRef (t:=3) (v:=enc w) (n:=8) (by simp [go_sem]) (by simp [go_sem]))) ?_;simp [g.gg,go_sem];refine zae iv ?_;refine zae iw ?_;refine zaa (zvz k hk v.parts[i] w.parts[i] n hv hw hn hn1 sv sw) (zby (by simp [go_sem]) (zby (by simp [go_sem]) (zf7 _ _))) ?_;simp [go_sem]
theorem zio (st:St) (s g ix off:Nat):toPV st 5 (.ptr s g ix off)=if ix=0/\off=0 then match st.obj s g with
  | some o=>match o.es with
   | [e]=>(toPV st 4 e).map .ref
   | _=>none
  | none=>none
  else none:=rfl
theorem zpj (st:St) (v:PV):toPV st 4 (.p v)=some v:=rfl
theorem zr1 (r:GRing) (v w:GW) (n:Nat) (hv:v.sm n) (hw:w.sm n) (hn:n<=400000) (hn1:1<=n) (cv:v.chk r) (cw:w.chk r):Sp P F.am [enc r,enc v,enc w] (.pure (enc (r.plus v w))):=by
 have hr0:=cv.1;by_cases h6:r.kind=6;rotate_left
 ·have h1:r.plus v w=zaq r.kind v w:=by simp [GRing.plus,h6]
  rw [h1]; exact z9k r v w n hv hw hn hn1 cv cw h6
 have hp:=GRing.ok_parts hr0 h6;have t1:v.tk r=v:=yj1 cv;have t2:w.tk r=w:=yj1 cw;have k1:=zdq r v (hv.mono (by omega));have k2:=zdq r w (hw.mono (by omega));rw [t1] at k1; rw [t2] at k2;have lv:=(cv.2.2 h6).1;have lw:=(cw.2.2 h6).1;have lp:(zd3 r.parts v.parts w.parts).length=r.parts.length:=zbb lv lw;refine Sp.vz c.am fun _=>?_;simp [g.am,go_sem];refine zaa (zeo r) rfl ?_;simp [hr0,go_sem];refine zab k1 ?_;simp [go_sem];refine zab k2 ?_;simp [go_sem,h6];refine zaa (zus r hp.2.2 hp.2.1 F.gg [.ref (enc v),.ref (enc w)] (zd3 r.parts v.parts w.parts) lp fun i h h'=>?_) ?_ ?_
 ·rw [zbk h (by omega) (by omega) h'];exact z0o r.parts[i] (hp.2.2 _ (yj2 h)) v w i n (by omega) (by omega) (by omega) (hv.parts _ (yj2 _)) (hw.parts _ (yj2 _)) hn hn1 ((cv.2.2 h6).2.2 i h (by omega)) ((cw.2.2 h6).2.2 i h (by omega))
 ·simp [go_sem,zio,zpj,h6]
 simp [go_sem,GRing.plus,h6]
theorem zlg (r:GRing) (v w:GW) (n:Nat) (hv:v.sm n) (hw:w.sm n) (hn:n<=2000) (hn1:1<=n) (cv:v.chk r) (cw:w.chk r):Sp P F.am [enc r,enc v,enc w] (.pure (enc (r.plus v w))):=zr1 r v w n hv hw (by omega) hn1 cv cw
theorem zig {k:Int} (hk:1<=k/\k<=5):(zb3 k).si k:=by
 have:k=1\/k=2\/k=3\/k=4\/k=5:=by omega
 have h1:=zm7;rcases this with rfl|rfl|rfl|rfl|rfl
 ·rw [si1]; exact ⟨rfl,rfl,rfl,rfl,rfl,h1⟩
 ·rw [si2]; exact ⟨rfl,rfl,rfl,rfl,Int.le_refl 0,by simp [zb3,GW.cost],fun _=>rfl⟩
 ·rw [si3]; exact ⟨rfl,rfl,rfl,rfl,rfl,h1,by show 0<=gr0.v; rw [zi8]; decide,by show gr0.v<=1; rw [zi8]; decide⟩
 ·rw [si4]; exact ⟨rfl,rfl,rfl,rfl,rfl⟩
 ·rw [si5]; exact ⟨rfl,rfl,rfl,rfl,rfl,zml⟩
theorem zb7 {k:Int} (hk:1<=k/\k<=5) {v w:GW} (hv:v.si k) (hw:w.si k):(zaq k v w).si k:=by
 have:k=1\/k=2\/k=3\/k=4\/k=5:=by omega
 rcases this with rfl|rfl|rfl|rfl|rfl
 ·rw [si1]; exact ⟨rfl,rfl,rfl,rfl,rfl,zbx _⟩
 ·unfold zaq; simp only [yj0 (show ¬ (2:Int)=1 by decide),yj1]; split<;>assumption
 ·unfold zaq; simp only [yj0 (show ¬ (3:Int)=1 by decide),yj0 (show ¬ (3:Int)=2 by decide),yj1]; split<;>assumption
 ·rw [si4]; exact ⟨rfl,rfl,rfl,rfl,rfl⟩
 ·rw [si5]; exact ⟨rfl,rfl,rfl,rfl,rfl,zcg _ (si_p hv)⟩
theorem zol {k:Int} (hk:1<=k/\k<=5) {v:GW} (hv:v.si k):zaq k v (zb3 k)=v:=by
 have:k=1\/k=2\/k=3\/k=4\/k=5:=by omega
 cases v with
 | mk q c i s p ps =>
 rcases this with rfl|rfl|rfl|rfl|rfl
 ·obtain ⟨h1,h2,h3,h4,h5,h6⟩:=si1.1 hv;simp only [GW.parts_mk,GW.inf_mk,GW.cost_mk,GW.set_mk,GW.poly_mk,GW.q_mk] at h1 h2 h3 h4 h5 h6;subst h1 h2 h3 h4 h5;simp [zaq,zb3,GW.q_mk,zi8,yjm,zgt h6]
 ·obtain ⟨h1,h2,h3,h4,h5,h6,h7⟩:=si2.1 hv;simp only [GW.parts_mk,GW.inf_mk,GW.cost_mk,GW.set_mk,GW.poly_mk,GW.q_mk] at h1 h2 h3 h4 h5 h6 h7;subst h1 h2 h3 h4;cases i
  ·simp [zaq,zb3,GW.inf_mk]
  ·have:=h7 rfl; subst this;simp [zaq,zb3,GW.inf_mk]
 ·obtain ⟨h1,h2,h3,h4,h5,h6,h7,h8⟩:=si3.1 hv;simp only [GW.parts_mk,GW.inf_mk,GW.cost_mk,GW.set_mk,GW.poly_mk,GW.q_mk] at h1 h2 h3 h4 h5 h6 h7;have:¬ q.v<0:=ykb.2 h7;simp [zaq,zb3,GW.q_mk,zi8,this]
 ·obtain ⟨h1,h2,h3,h4,h5⟩:=si4.1 hv;simp only [GW.parts_mk,GW.inf_mk,GW.cost_mk,GW.set_mk,GW.poly_mk,GW.q_mk] at h1 h2 h3 h4 h5;subst h1 h2 h3 h4 h5;simp [zaq,zb3,GW.set_mk]
 ·obtain ⟨h1,h2,h3,h4,h5,h6⟩:=si5.1 hv;simp only [GW.parts_mk,GW.inf_mk,GW.cost_mk,GW.set_mk,GW.poly_mk,GW.q_mk] at h1 h2 h3 h4 h5 h6;subst h1 h2 h3 h4 h5;simp [zaq,zb3,GW.poly_mk,padd]
theorem zbp {r:GRing} (h:r.ok=true):r.zero.chk r:=by
 by_cases h6:r.kind=6
 ·refine ⟨h,fun h'=>absurd h6 h',fun _=>?_⟩;have hp:=GRing.ok_parts h h6;simp [GRing.zero,h,h6,GW.parts_mk];exact fun i hi _=>zig (hp.2.2 _ (yj2 hi))
 ·have hk:=GRing.ok_kind h h6;refine ⟨h,fun _=>?_,fun h'=>absurd h' h6⟩;have:r.zero=zb3 r.kind:=by simp [GRing.zero,h,zb3,hk.2.2]
  rw [this]; exact zig ⟨hk.1,hk.2.1⟩
theorem z3z (k:Int) (n:Nat):(zb3 k).sm n:=.one k (zg4 n) (zmb n) (by simp)
theorem zy3 {r:GRing} {n:Nat} (h:r.ok=true) (hn:3<=n):r.zero.sm n:=by
 have:r.zero=.mk gr0 0 (decide (r.kind=2)) 0 [] (r.parts.map zb3):=by simp [GRing.zero,h]
 rw [this];have hl:r.parts.length<=3:=by
  by_cases h6:r.kind=6
  ·exact (GRing.ok_parts h h6).2.1
  ·simp [(GRing.ok_kind h h6).2.2]
 refine .mk (zg4 n) (zmb n) (by simp) (by simp; omega) fun w hw=>?_;obtain ⟨k,_,rfl⟩:=yj3.1 hw;exact z3z k n
theorem zcr {r:GRing} {v w:GW} (hv:v.chk r) (hw:w.chk r):(r.plus v w).chk r:=by
 by_cases h6:r.kind=6
 ·have hp:=GRing.ok_parts hv.1 h6;have lv:=(hv.2.2 h6).1;have lw:=(hw.2.2 h6).1;refine ⟨hv.1,fun h=>absurd h6 h,fun _=>?_⟩;have e:r.plus v w=.mk gr0 0 false 0 [] (zd3 r.parts v.parts w.parts):=by simp [GRing.plus,h6]
  rw [e];refine ⟨zbb lv lw,rfl,fun i h h'=>?_⟩;simp only [GW.parts_mk] at h' ⊢;rw [zbk h (by omega) (by omega) h'];exact zb7 (hp.2.2 _ (yj2 h)) ((hv.2.2 h6).2.2 i h (by omega)) ((hw.2.2 h6).2.2 i h (by omega))
 ·have hk:=GRing.ok_kind hv.1 h6;have e:r.plus v w=zaq r.kind v w:=by simp [GRing.plus,h6]
  rw [e];exact ⟨hv.1,fun _=>zb7 ⟨hk.1,hk.2.1⟩ (hv.2.1 h6) (hw.2.1 h6),fun h=>absurd h h6⟩
theorem zc2 {r:GRing} {v:GW} (hv:v.chk r):r.plus v r.zero=v:=by
 by_cases h6:r.kind=6
 ·have hp:=GRing.ok_parts hv.1 h6;obtain ⟨lv,ev,sv⟩:=hv.2.2 h6;have e:r.plus v r.zero=.mk gr0 0 false 0 [] (zd3 r.parts v.parts r.zero.parts):=by simp [GRing.plus,h6]
  have ez:r.zero.parts=r.parts.map zb3:=by simp [GRing.zero,hv.1,GW.parts_mk]
  rw [e,ez,ev];simp only [GW.parts_mk]
  congr 1
  refine ykn (by rw [zbb lv (by simp),lv]) fun i h1 h2=>?_;have h3:i<r.parts.length:=by rw [<- lv]; exact h2
  rw [zbk h3 h2 (by simpa using h3) h1];simp only [List.getElem_map];exact zol (hp.2.2 _ (List.getElem_mem h3)) (sv i h3 h2)
 ·have hk:=GRing.ok_kind hv.1 h6;have e:r.plus v r.zero=zaq r.kind v r.zero:=by simp [GRing.plus,h6]
  have ez:r.zero=zb3 r.kind:=by simp [GRing.zero,hv.1,zb3,hk.2.2]
  rw [e,ez];exact zol ⟨hk.1,hk.2.1⟩ (hv.2.1 h6)
theorem z0m {r:GRing} {v w:GW} {m n:Nat} (sv:v.sm m) (sw:w.sm n) (hv:v.chk r) (hw:w.chk r) (hm:1<=m) (hn:1<=n):(r.plus v w).sm (m+n+1):=by
 by_cases h6:r.kind=6
 ·have hp:=GRing.ok_parts hv.1 h6;have lv:=(hv.2.2 h6).1;have lw:=(hw.2.2 h6).1;have e:r.plus v w=.mk gr0 0 false 0 [] (zd3 r.parts v.parts w.parts):=by simp [GRing.plus,h6]
  have hl:=zbb (ks:=r.parts) (vs:=v.parts) (ws:=w.parts) lv lw;rw [e];refine .tup (by rw [hl,<- lv]; have:=sv.plen; omega) fun x hx=>?_;obtain ⟨i,hi,rfl⟩:=yju.1 hx;have h3:i<r.parts.length:=by omega
  rw [zbk h3 (by omega) (by omega) hi];exact zvx (sv.parts _ (yj2 _)) (sw.parts _ (yj2 _)) (zel hv h6 h3 (by omega)) (zel hw h6 h3 (by omega)) hm hn
 ·have hk:=GRing.ok_kind hv.1 h6;have e:r.plus v w=zaq r.kind v w:=by simp [GRing.plus,h6]
  have er:r=⟨r.kind,[]⟩:=by rw [<- hk.2.2]
  rw [e];rw [er] at hv hw;exact zvx sv sw hv hw hm hn
theorem zzg {r:GRing} {w:GW} (h:w.chk r):w.tk r=w:=yj1 h
end Go.Ab
namespace Go.Ab
open Enc (enc)
attribute [local go_sem] zal Opd.slots
def zcm:List Int->List GW->List GW->List GW
 | k::ks,v::vs,w::ws=>zao k v w::zcm ks vs ws
 | _,_,_=>[]
def GRing.times (r:GRing) (v w:GW):GW:=if r.kind=6 then .mk gr0 0 false 0 [] (zcm r.parts v.parts w.parts) else zao r.kind v w
theorem zaz:∀ {ks:List Int} {vs ws:List GW},vs.length=ks.length->ws.length=ks.length->(zcm ks vs ws).length=ks.length
 | [],vs,ws,_,_=>by simp [zcm]
 | k::ks,[],ws,h,_=>by simp at h
 | k::ks,v::vs,[],_,h=>by simp at h
 | k::ks,v::vs,w::ws,h1,h2=>by simp [zcm,zaz (ks:=ks) (vs:=vs) (ws:=ws) (by simpa using h1) (by simpa using h2)]
theorem za7:∀ {ks:List Int} {vs ws:List GW} {i:Nat} (h:i<ks.length) (h1:i<vs.length) (h2:i<ws.length) (h3:i<(zcm ks vs ws).length),(zcm ks vs ws)[i]=zao ks[i] vs[i] ws[i]
 | k::ks,v::vs,w::ws,0,_,_,_,_=>by simp [zcm]
 | k::ks,v::vs,w::ws,i+1,h,h1,h2,h3=>by simp only [zcm,List.getElem_cons_succ];exact za7 (by simpa using h) (by simpa using h1) (by simpa using h2) (by simpa [zcm] using h3)
theorem z4a (r:GRing) (v w:GW) (hv:v.sm 1048576) (hw:w.sm 1048576) (cv:v.chk r) (cw:w.chk r) (h6:r.kind=6)
  (hpart:∀ i (h:i<r.parts.length) (h1:i<v.parts.length) (h2:i<w.parts.length),Sp P F.ae [enc (⟨r.parts[i],[]⟩:GRing),enc v.parts[i],enc w.parts[i]] (.pure (enc (zao r.parts[i] v.parts[i] w.parts[i])))) :
  Sp P F.ae [enc r,enc v,enc w] (.pure (enc (r.times v w))):=by
 have hr0:=cv.1;have hp:=GRing.ok_parts hr0 h6;have t1:v.tk r=v:=yj1 cv;have t2:w.tk r=w:=yj1 cw;have k1:=zay r v (hv.mono (by omega));have k2:=zay r w (hw.mono (by omega));rw [t1] at k1; rw [t2] at k2;have lv:=(cv.2.2 h6).1;have lw:=(cw.2.2 h6).1;have lp:(zcm r.parts v.parts w.parts).length=r.parts.length:=zaz lv lw;refine Sp.vz c.ae fun _=>?_;simp [g.ae,go_sem];refine zaa (zax r) rfl ?_;simp [hr0,go_sem];refine zab k1 ?_;simp [go_sem];refine zab k2 ?_;simp [go_sem,h6]
 refine zai (S:=fun k:Nat=>mkSt [(3,.ptr 1 0 0 0),(4,.ptr 2 0 0 0),(5,.ptr 3 0 0 0),(6,.ptr 4 0 0 0),(7,.ptr 5 0 0 0),(8,.p (.int .i64 k))]
   [(1,⟨2,[.p (enc r)]⟩),(2,⟨8,[.p (enc v)]⟩),(3,⟨8,[.p (enc w)]⟩),(4,⟨8,[.agg [.p (.bool false),.nil,.nil,.p (.int .i64 0),.p (.bool false),.p (.int .u64 0),.nil,.nil]]⟩),
    (5,⟨8,[.agg [.p (.bool false),.nil,.nil,.p (.int .i64 0),.p (.bool false),.p (.int .u64 0),.nil,.own 6 0 0 k]]⟩),(6,⟨8,avs ((zcm r.parts v.parts w.parts).take k)⟩)])
  (I:=fun k=>k<=r.parts.length) (m:=fun k=>r.parts.length - k) 0
  ((Weak.nilCell (s0:=7) (g0:=0) (i:=7) (s:=77) (sz:=8) rfl).trans (Weak.to [3,4,5,6,7,8] [((3,0),1),((4,0),2),((5,0),3),((6,0),4),((7,0),5),((77,0),6)] (by simp [go_sem,h6]))) (by omega) ?_
 rintro k h1 R hn' hr hx;have e1:=i64s k (by omega);simp [g.po,mkSt,go_sem];refine ⟨fun hk=>?_,fun hk=>hx _ _ ?_⟩
 ·have hkv:k<v.parts.length:=by omega
  have hkw:k<w.parts.length:=by omega
  have hpk:=hp.2.2 _ (yj2 hk);refine zaa (ziy r k hk) rfl ?_;simp [go_sem];refine zae hkv ?_
  try simp [go_sem]
  refine zae hkw ?_
  try simp [go_sem]
  refine zab (hpart k hk hkv hkw) ?_;have hkL:k<(zcm r.parts v.parts w.parts).length:=by omega
  have hts:avs ((zcm r.parts v.parts w.parts).take (k+1))=avs ((zcm r.parts v.parts w.parts).take k)++[.p (enc (zao r.parts[k] v.parts[k] w.parts[k]))]:=by rw [yj7 hkL,zcy,za7 hk hkv hkw hkL]; rfl
  simp [e1,go_sem];exact ⟨⟨by omega,by omega⟩,hn' (k+1) _ (Weak.to [3,4,5,6,7,8] [((1,0),1),((2,0),2),((3,0),3),((4,0),4),((5,0),5),((94,0),6)] (by simp [go_sem,hts])) (by omega) (by omega)⟩
 ·have hk':k=(zcm r.parts v.parts w.parts).length:=by omega
  have hpl:r.times v w=.mk gr0 0 false 0 [] (zcm r.parts v.parts w.parts):=by simp [GRing.times,h6]
  rw [hpl];subst hk';simp [go_sem]
end Go.Ab
namespace Go.Ab
open Enc (enc)
def mD (n:Nat):Nat:=6^n
def mB (n:Nat):Nat:=6291456^n
def qm (n:Nat) (q:Rat):Prop:=qb (mD n) (mB n) q
structure GW.mb1 (n:Nat) (w:GW):Prop where
 q:qm n w.q.v
 p:∀ e,qm n (pc w.poly e)
structure GW.mb (n:Nat) (w:GW):Prop where
 o:w.mb1 n
 ps:∀ x∈w.parts,x.mb1 n
theorem znu {p q:Rat} (h0:0<=p) (h1:p<=1) (k0:0<=q) (k1:q<=1):p*q<=1:=by have h2:p*q<=p*1:=yly k1 h0;rw [Rat.mul_one] at h2;exact Rat.le_trans h2 h1
theorem za9 {k:Int} (hk:1<=k/\k<=5) {v w:GW} (hv:v.si k) (hw:w.si k):(zao k v w).si k:=by
 have:k=1\/k=2\/k=3\/k=4\/k=5:=by omega
 rcases this with rfl|rfl|rfl|rfl|rfl
 ·rw [si1]; exact ⟨rfl,rfl,rfl,rfl,rfl,zbx _⟩
 ·obtain ⟨h1,h2,h3,h4,h5,h6,h7⟩:=si2.1 hv;obtain ⟨k1,k2,k3,k4,k5,k6,k7⟩:=si2.1 hw;unfold zao;rw [yj0 (by omega),yj1 rfl];split
  ·rw [si2]; exact ⟨rfl,rfl,rfl,rfl,Int.le_refl 0,by show (0:Int)<=1099511627776; omega,fun _=>rfl⟩
  ·rename_i h;rw [si2]; exact ⟨rfl,rfl,rfl,rfl,by show 0<=v.cost+w.cost; omega,by show v.cost+w.cost<=1099511627776; omega,fun h=>by cases h⟩
 ·obtain ⟨h1,h2,h3,h4,h5,h6,h7,h8⟩:=si3.1 hv;obtain ⟨k1,k2,k3,k4,k5,k6,k7,k8⟩:=si3.1 hw;rw [si3];refine ⟨rfl,rfl,rfl,rfl,rfl,zbx _,?_,?_⟩
  ·show 0<=(rto (v.q.v*w.q.v)).v;rw [zbt]; exact Rat.mul_nonneg h7 k7
  ·show (rto (v.q.v*w.q.v)).v<=1;rw [zbt]; exact znu h7 h8 k7 k8
 ·rw [si4]; exact ⟨rfl,rfl,rfl,rfl,rfl⟩
 ·rw [si5]; exact ⟨rfl,rfl,rfl,rfl,rfl,zb6 _ _⟩
theorem zbn {r:GRing} {v w:GW} (hv:v.chk r) (hw:w.chk r):(r.times v w).chk r:=by
 by_cases h6:r.kind=6
 ·have hp:=GRing.ok_parts hv.1 h6;have lv:=(hv.2.2 h6).1;have lw:=(hw.2.2 h6).1;refine ⟨hv.1,fun h=>absurd h6 h,fun _=>?_⟩;have e:r.times v w=.mk gr0 0 false 0 [] (zcm r.parts v.parts w.parts):=by simp [GRing.times,h6]
  rw [e];refine ⟨zaz lv lw,rfl,fun i h h'=>?_⟩;simp only [GW.parts_mk] at h' ⊢;rw [za7 h (by omega) (by omega) h'];exact za9 (hp.2.2 _ (yj2 h)) ((hv.2.2 h6).2.2 i h (by omega)) ((hw.2.2 h6).2.2 i h (by omega))
 ·have hk:=GRing.ok_kind hv.1 h6;have e:r.times v w=zao r.kind v w:=by simp [GRing.times,h6]
  rw [e];exact ⟨hv.1,fun _=>za9 ⟨hk.1,hk.2.1⟩ (hv.2.1 h6) (hw.2.1 h6),fun h=>absurd h h6⟩
end Go.Ab
