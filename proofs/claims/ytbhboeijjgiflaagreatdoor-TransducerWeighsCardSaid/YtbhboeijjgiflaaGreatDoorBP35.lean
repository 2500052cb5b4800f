/-
Proofs for the law TransducerWeighs, part 35. Conditions: none.
-/
import Derived.Test.YtbhboeijjgiflaaGreatDoorBP32
import Derived.Test.YtbhboeijjgiflaaGreatDoorBP12
import Derived.Test.YtbhboeijjgiflaaGreatDoorBP23
import Derived.Test.YtbhboeijjgiflaaGreatDoorBP28
import Derived.Test.YtbhboeijjgiflaaGreatDoorBP33
import Derived.Test.YtbhboeijjgiflaaGreatDoorBP34
import Derived.Test.YtbhboeijjgiflaaGreatDoorBP31
import Derived.Test.YtbhboeijjgiflaaGreatDoorBP25
import Derived.Test.YtbhboeijjgiflaaGreatDoorBP29
import Derived.Test.YtbhboeijjgiflaaGreatDoorBP30
set_option maxRecDepth 100000
set_option maxHeartbeats 4000000
set_option linter.all false
namespace Go.Ab
open Enc (enc)
theorem yh8:ygg P F.di 6:=sortK0
theorem yiq (m n:GMono):Sp P F.bt [enc m,enc n] (.pure (.int .i64 (n.e.cmp m.e))):=by refine Sp.vz c.bt fun _=>?_;simp [g.bt,go_sem];refine zaa (zsg m.e n.e) rfl ?_;simp [go_sem]
theorem z7c:SpM P F.mu [.sl [],.int .i64 0,.int .i64 0,.fn F.bt []] 0 6 [] (.pure (.tup [])):=by refine SpM.of_vm c.mu (by simp) rfl rfl ?_;simp [g.mu,go_sem];refine zib fun R hn hr hx=>?_;simp [g.s9,g.ta,go_sem];refine hx _ _ ?_;simp [go_sem]
theorem z6q (k:Int):SpM P F.jg [.sl [],.int .i64 0,.int .i64 0,.int .i64 k,.fn F.bt []] 0 6 [] (.pure (.tup [])):=by refine SpM.of_vm c.jg (by simp) rfl rfl ?_;simp [g.jg,go_sem];refine zib fun R hn hr hx=>?_;simp [g.sx,go_sem];refine zf6 z7c (by simp [go_sem]) rfl rfl (by simp) rfl rfl rfl rfl rfl (by simp [go_sem]) ?_;simp [go_sem];exact hr _ (by simp [go_sem])
theorem Ex.cmp_lex (x y:Ex):x.cmp y<0 ↔ x.a<y.a\/(x.a=y.a/\(x.b<y.b\/(x.b=y.b/\x.c<y.c))):=by
 unfold Ex.cmp
 repeat' split
 all_goals omega
def sD (x:PV):Prop:=∃ m:GMono,x=enc m
def sX:PV->Ex
 | .agg (.int _ a::.int _ b::.int _ c::_)=>⟨a,b,c⟩
 | _=>⟨0,0,0⟩
theorem ydx (m:GMono):sX (enc m)=m.e:=rfl
theorem Ex.ext' {x y:Ex} (h1:¬ x.cmp y<0) (h2:¬ y.cmp x<0):x=y:=by rw [Ex.cmp_lex] at h1 h2;cases x; cases y; simp only [Ex.mk.injEq] at *; omega
theorem z5s (l l':List GMono) (hl:l.length<=1073741824) (hk:(l.map (·.e)).Nodup) (hp:l'.Perm l) (hs:l'.Pairwise fun x y=>y.e.cmp x.e<0):SpM P F.di [.sl (ens l),.fn F.bt []] 0 6 (ens l') (.pure (.tup [])):=by
 have hfn:=zkm c.di;have hgn:=zkm c.bt;cases l with
 | nil =>
  have:l'=[]:=List.Perm.eq_nil hp;subst this;refine SpM.of_vm c.di (by simp) rfl rfl ?_;simp [g.di,go_sem];refine zaa ya9 rfl ?_;simp [go_sem];refine zf6 (z6q 0) (by simp [go_sem]) rfl rfl (by simp) rfl rfl rfl rfl rfl (by simp [go_sem]) ?_;simp [go_sem]
 | cons m l =>
  have hnd:∀ x y:GMono,x∈m::l->y∈m::l->x.e=y.e->x=y:=fun x y hx hy he=>by obtain ⟨i,hi⟩:=List.getElem?_of_mem hx;obtain ⟨j,hj⟩:=List.getElem?_of_mem hy;obtain ⟨i1,i2⟩:=List.getElem?_eq_some_iff.1 hi;obtain ⟨j1,j2⟩:=List.getElem?_eq_some_iff.1 hj;have:i=j:=(List.getElem_inj (h₀ := by simpa using i1) (h₁ := by simpa using j1) hk).1 (by simp only [List.getElem_map,i2,j2,he]);subst this; rw [<- i2,<- j2]
  refine yh8.spM hfn (by decide) (D:=sD) (c:=fun x y=>(sX y).cmp (sX x)) hgn ?_ ?_ ?_ ?_ (by simp [ens]) (by simp only [zpl]; omega) ?_ ?_ ?_
  ·rintro _ _ ⟨x,rfl⟩ ⟨y,rfl⟩; exact yiq x y
  ·rintro _ ⟨x,rfl⟩; rw [Ex.cmp_lex]; omega
  ·rintro _ _ _ ⟨x,rfl⟩ ⟨y,rfl⟩ ⟨z,rfl⟩ h1 h2; simp only [Ex.cmp_lex] at *; omega
  ·rintro _ _ _ ⟨x,rfl⟩ ⟨y,rfl⟩ ⟨z,rfl⟩ h1 h2; simp only [Ex.cmp_lex] at *; omega
  ·intro e he; obtain ⟨x,_,rfl⟩:=yk4.1 he; exact ⟨x,rfl⟩
  ·intro e he; exact z0p _ e he
  ·intro l0 h0 hs0;have hpe:(ens l').Perm (ens (m::l)):=hp.map _;refine List.Perm.eq_of_pairwise (le:=fun x y=>¬ (sX x).cmp (sX y)<0) (fun a b ha hb h1 h2=>?_) hs0 ?_ (h0.trans hpe.symm)
   ·obtain ⟨x,hx,rfl⟩:=yk4.1 (h0.mem_iff.1 ha);obtain ⟨y,hy,rfl⟩:=yk4.1 (hpe.mem_iff.1 hb);have:=hnd x y hx hy (Ex.ext' h1 h2);rw [this]
   ·rw [ens,ypc];refine hs.imp fun {x y} h=>?_;simp only [ydx,Ex.cmp_lex] at *
    omega
def nzm (p:Ex × GRat):Option GMono:=if p.2.v≠0 then some ⟨p.1,p.2⟩ else none
def nz (L:List (Ex × GRat)):List GMono:=L.filterMap nzm
def nzAt (L:List (Ex × GRat)) (j:Nat):Option GMono:=L[j]?.bind nzm
theorem zhh {α β : Type} (f : α -> Option β):∀ (L:List α),(List.range L.length).filterMap (fun j=>L[j]?.bind f)=L.filterMap f
 | []=>rfl
 | x::L=>by
  rw [ylr,List.range_succ_eq_map,yoa];have h:(List.map Nat.succ (List.range L.length)).filterMap (fun j=>(x::L)[j]?.bind f)=L.filterMap f:=by rw [List.filterMap_map,<- zhh f L];rfl
  simp only [List.getElem?_cons_zero,Option.bind_some,h,yoa]
theorem z6t (L:List (Ex × GRat)):(List.range L.length).filterMap (nzAt L)=nz L:=zhh nzm L
theorem zpj {j:Nat} {Lf:List Nat} (hj:j∈Lf):∀ {R:List Nat},R.Nodup->(R.filter fun i=>i∉Lf.filter fun i => !decide (i=j)).Perm ((if j∈R then [j] else [])++R.filter fun i=>i∉Lf)
 | [],_=>by simp
 | x::R,h=>by
  obtain ⟨h1,h2⟩:=ylg.1 h;have ih:=zpj hj h2;by_cases hx:x=j
  ·subst hx;have e1:decide (x∉Lf.filter fun i => !decide (i=x))=true:=by simp
   have e2:decide (x∉Lf)=false:=by simp [hj]
   rw [yj8 h1] at ih;simp only [yob,e1,e2,ykf,yk7,yk5,true_or,yk0,List.singleton_append,ym5] at ih ⊢;exact ih.cons x
  ·have hm:(j∈x::R) ↔ j∈R:=by simp [ykt hx]
   simp only [hm];by_cases hf:x∈Lf
   ·have e1:decide (x∉Lf.filter fun i => !decide (i=j))=false:=by simp [hf,hx]
    have e2:decide (x∉Lf)=false:=by simp [hf]
    simp only [yob,e1,e2,ykf,yk7];exact ih
   ·have e1:decide (x∉Lf.filter fun i => !decide (i=j))=true:=by simp [hf]
    have e2:decide (x∉Lf)=true:=by simp [hf]
    simp only [yob,e1,e2,yk0];exact (ih.cons x).trans List.perm_middle.symm
theorem ya1 {L:List (Ex × GRat)} {Lf:List Nat} {j:Nat} (hj:j∈Lf) (hl:j<L.length) {acc:List GMono} (h:acc.Perm (((List.range L.length).filter fun i=>i∉Lf).filterMap (nzAt L))) :
  (match nzAt L j with|some m=>acc++[m]|none=>acc).Perm (((List.range L.length).filter fun i=>i∉Lf.filter fun i => !decide (i=j)).filterMap (nzAt L)):=by
 have h1:=(zpj hj (R:=List.range L.length) yo3).filterMap (nzAt L);rw [yj9 (yky.2 hl),List.singleton_append,yoa] at h1;refine List.Perm.trans ?_ h1.symm;cases nzAt L j with
 | none=>exact h
 | some m=>exact (List.perm_append_comm (l₁ := acc) (l₂ := [m])).trans (h.cons m)
theorem zqg {L:List (Ex × GRat)} (h:(L.map (·.1)).Nodup):((nz L).map (·.e)).Nodup:=by
 have hsub:∀ L:List (Ex × GRat),((nz L).map (·.e)).Sublist (L.map (·.1)):=by
  intro L
  induction L with
  | nil=>exact List.Sublist.refl _
  | cons p L ih =>
   simp only [nz,yoa,nzm] at ih ⊢;split
   ·rename_i hn;exact ih.cons _
   ·rename_i m hm;split at hm
    ·cases hm; exact ih.cons_cons _
    ·cases hm
 exact (hsub L).nodup h
def lsS (r':Nat) (acc:List GMono):St:=mkSt [(3,.own 1 0 0 acc.length),(7,.p (.itv r'))] [(1,⟨6,avs acc⟩)]
def lsI (r' r:Nat) (L:List (Ex × GRat)) (n:Nat) (s:St) (B:Option FA):Prop:=∃ acc Lf cur,Weak s (lsS r' acc)/\B=some (itFA r' r (mks L) (mvs L) Lf cur)/\Lf.length=n/\acc.length+Lf.length<=L.length/\acc.Perm (((List.range L.length).filter fun i=>i∉Lf).filterMap (nzAt L))
def lsE (r':Nat) (L:List (Ex × GRat)) (ex:Exit) (s:St):Prop:=ex=.exit 0/\∃ acc,Weak s (lsS r' acc)/\acc.Perm (nz L)/\acc.length<=L.length
theorem zom (r:Nat) (L:List (Ex × GRat)) (hL:∀ p∈L,p.2.sm 4194304) (hkn:(L.map (·.1)).Nodup) (hlen:L.length<=1000000) (l':List GMono) (hp:l'.Perm (nz L)) (hs:l'.Pairwise fun x y=>y.e.cmp x.e<0) :
  Sp P F.fh [.mp r (mks L) (mvs L)] (.fresh 6 (ens l')):=by
 refine Sp.of_mr c.fh (by simp) ?_;unfold g.fh;generalize hP:(fun ex s (_:Option FA)=>retP [(2,none)] (RV.fresh 6 (ens l')) ex s)=Post;refine MR.gseq ?_;simp [go_sem];refine MR.gseq ?_;simp [go_sem];refine MR.gseq' (MR.gseq' (MR.greg (zlq 1 [[0],[6]] ?_)));simp [go_sem];refine MIns.cons (z2m ty.map (by rfl) fun r'=>?_);refine ze7 [] ?_;simp [go_sem];refine MR.gblk (MR.mono (MR.gloop (Post:=fun ex s B=>lsE r' L ex s) (I:=lsI r' r L) L.length ?_ ?_) ?_)
 ·refine ⟨[],List.range L.length,none,?_,by simp [mks],by simp,by simp,?_⟩
  ·exact Weak.nl 3 1 6 rfl (Weak.to [3,7] [((1,0),1)] (by simp [lsS,mkSt,go_sem]))
  ·have:(List.range L.length).filter (fun i=>i∉List.range L.length)=[]:=by rw [List.filter_eq_nil_iff]; intro a ha; simp at ha ⊢; exact ha
   rw [this]; exact List.Perm.refl _
 ·rintro n s B ⟨acc,Lf,cur,hw,rfl,hn,hac,hperm⟩;refine MR.weak hw ?_;unfold g.sg;refine MR.gseq' (MR.greg (MIns.cons (z6z rfl (fun h0=>?_) (fun j hj kv vv hkv hvv=>?_))))
  ·refine ze7 [[8]] ?_;simp [go_sem];refine MR.gseq' (MR.gcond (t:=false) rfl (fun h=>by cases h) (fun _=>MR.gext ⟨fun h=>(by cases h),fun _=>⟨fun h=>(by cases h),fun _=>⟨rfl,acc,?_,?_,by omega⟩⟩⟩))
   ·exact Weak.to [3,7] [((1,0),1)] (by simp [lsS,mkSt,go_sem])
   ·subst h0;have e:(List.range L.length).filter (fun i=>decide (i∉([]:List Nat)))=List.range L.length:=List.filter_eq_self.2 (by simp);rw [e,z6t] at hperm; exact hperm
  ·obtain ⟨p,hpj,rfl,rfl⟩:∃ p:Ex × GRat,L[j]?=some p/\kv=enc p.1/\vv=enc p.2:=by simp only [mks,ykv,ylx] at hkv;obtain ⟨p,h1,rfl⟩:=hkv;simp only [mvs,ykv,h1,yng,yk1] at hvv;exact ⟨p,h1,rfl,hvv.symm⟩
   have hjl:=(ym4.1 hpj).1;refine ze7 [[8]] ?_;simp [go_sem];refine MR.gseq' (MR.gcond (t:=true) rfl (fun _=>MR.gnop ⟨fun _=>?_,fun h=>absurd rfl h⟩) (fun h=>by cases h));refine MR.gblk (MR.gseq' (MR.greg (MIns.cons (z2n rfl hkv hvv ?_))));refine ze7 [[],[10],[],[],[11],[12]] ?_;simp [lsS,mkSt,go_sem];refine MR.of_vm ?_;simp [go_sem];refine zaa (zll p.2 (hL p (ymh hpj))) rfl ?_;have hstep:=ya1 hj hjl hperm;have hlt:(Lf.filter fun i => !decide (i=j)).length<Lf.length:=by refine Nat.lt_of_le_of_ne (ylz _ _) fun h=>?_;have:=(List.length_filter_eq_length_iff.1 h) j hj;simp at this
   by_cases hz:p.2.v=0
   ·have hsg:sgnR p.2.v=0:=(zfq _).2 hz;simp [go_sem,hsg];have hnz:nzAt L j=none:=by simp [nzAt,hpj,nzm,hz]
    rw [hnz] at hstep;exact ⟨fun _=>⟨_,by rw [<- hn]; exact hlt,acc,_,_,Weak.to [3,7] [((1,0),1)] (by simp [lsS,mkSt,go_sem]),rfl,rfl,by omega,hstep⟩,fun h=>absurd rfl h⟩
   ·have hsg:sgnR p.2.v≠0:=fun h=>hz ((zfq _).1 h);simp [go_sem,hsg];have hnz:nzAt L j=some ⟨p.1,p.2⟩:=by simp [nzAt,hpj,nzm,hz]
    rw [hnz] at hstep;exact ⟨by omega,fun _=>⟨_,by rw [<- hn]; exact hlt,acc++[⟨p.1,p.2⟩],_,_,Weak.to [3,7] [((21,0),1)] (by simp [lsS,mkSt,go_sem]),rfl,rfl,by simp; omega,hstep⟩,fun h=>absurd rfl h⟩
 ·rintro ex s B ⟨rfl,acc,hw,hperm,hac⟩;refine ⟨fun _=>?_,fun h=>absurd rfl h⟩;refine MR.weak hw (MR.of_vm ?_);simp [lsS,mkSt,go_sem];subst hP;have hkn':(acc.map (·.e)).Nodup:=(hperm.map _).nodup_iff.2 (zqg hkn);have hll:l'.length=acc.length:=(hp.trans hperm.symm).length_eq;refine zf6 (z5s acc l' (by omega) hkn' (hp.trans hperm.symm) hs) (by simp [go_sem]) rfl rfl (by simp) (by simp [go_sem]) (by simp [go_sem,hll]) rfl (zed _ _ rfl) (cells_one (fun _=>rfl) _) (by simp [go_sem]) ?_;simp [go_sem,hll]
theorem zR_v:zR.v=0:=zjk
structure MInv (ms:List GMono) (L:List (Ex × GRat)):Prop where
 tot:∀ e,(zih e L).v=pc ms e
 val:∀ e c,mget e L=some c->c=rto (pc ms e)/\∃ m∈ms,m.e=e
 nod:(L.map (·.1)).Nodup
 len:L.length<=ms.length
theorem zxa {κ α : Type} [DecidableEq κ] (e : κ) (c : α):∀ L:List (κ × α),(mset e c L).length<=L.length+1
 | []=>by simp [mset]
 | (e',c')::L=>by have:=zxa e c L;simp only [mset]; split<;>simp<;>omega
theorem zmy {κ α : Type} [DecidableEq κ] {e : κ} {c : α}:∀ {L:List (κ × α)},(L.map (·.1)).Nodup->(e,c)∈L->mget e L=some c
 | (e',c')::L,hn,h=>by
  obtain ⟨h1,h2⟩:=ylg.1 hn;simp only [mget];rcases yk5.1 h with h|h
  ·cases h; simp
  ·have:e'≠e:=by rintro rfl; exact h1 (yk4.2 ⟨_,h,rfl⟩)
   rw [yj8 this]; exact zmy h2 h
theorem MInv.step {ms:List GMono} {L:List (Ex × GRat)} (h:MInv ms L) (m:GMono):MInv (ms++[m]) (madd m L):=by
 have hpc:∀ e,pc (ms++[m]) e=pc ms e+if m.e=e then m.coef.v else 0:=fun e=>by rw [zfu]; simp [pc,ykr]
 refine ⟨fun e=>?_,fun e c hc=>?_,zy9 _ _ h.nod,?_⟩
 ·rw [hpc];simp only [zih,madd,zmz];split
  ·rename_i he; subst he;simp only [yn4,zbv];have:=h.tot m.e; simp only [zih] at this; rw [this]
  ·rw [ykr]; exact h.tot e
 ·simp only [madd,zmz] at hc;rw [hpc];split at hc
  ·rename_i he; subst he;cases hc;exact ⟨by rw [h.tot,yj9 rfl],m,by simp,rfl⟩
  ·rename_i he;obtain ⟨q1,x,q2,q3⟩:=h.val e c hc;exact ⟨by rw [yj8 he,ykr]; exact q1,x,by simp [q2],q3⟩
 ·have:=zxa m.e (rto ((zih m.e L).v+m.coef.v)) L;have:=h.len;simp only [madd,ymm,List.length_singleton]; omega
def zfy (ms:List GMono) (L:List (Ex × GRat)):List (Ex × GRat):=ms.foldl (fun L m=>madd m L) L
theorem MInv.fold:∀ (ms':List GMono) {ms:List GMono} {L:List (Ex × GRat)},MInv ms L->MInv (ms++ms') (zfy ms' L)
 | [],ms,L,h=>by simpa [zfy] using h
 | m::ms',ms,L,h=>by have:=MInv.fold ms' (h.step m);simpa [zfy] using this
theorem MInv.nil:MInv [] []:=⟨fun e=>zR_v,fun e c h=>(by cases h),by simp,by simp⟩
theorem minv (ms:List GMono):MInv ms (zfy ms []):=by simpa using MInv.fold ms MInv.nil
theorem MInv.mem {ms:List GMono} {L:List (Ex × GRat)} (h:MInv ms L) {p:Ex × GRat} (hp:p∈L):p.2=rto (pc ms p.1)/\∃ m∈ms,m.e=p.1:=h.val p.1 p.2 (zmy h.nod hp)
theorem z15 {p q:List GMono} (h:p.Perm q) (e:Ex):pc p e=pc q e:=by
 induction h with
 | nil=>rfl
 | cons x _ ih=>simp only [pc,ih]
 | swap x y l=>simp only [pc]; rw [<- Rat.add_assoc,<- Rat.add_assoc,ym2 (if y.e=e then y.coef.v else 0)]
 | trans _ _ ih1 ih2=>rw [ih1,ih2]
theorem zu1 {L:List (Ex × GRat)} {m:GMono} (h:m∈nz L):(m.e,m.coef)∈L/\m.coef.v≠0:=by
 obtain ⟨p,hp,h⟩:=List.mem_filterMap.1 h;unfold nzm at h;split at h
 ·rename_i hz; cases h; exact ⟨hp,hz⟩
 ·cases h
theorem yas:∀ {L:List (Ex × GRat)} (e:Ex),(L.map (·.1)).Nodup->pc (nz L) e=(zih e L).v
 | [],e,_=>by simp [nz,pc,zih,mget,zR_v]
 | (e1,c1)::L,e,h=>by
  obtain ⟨h1,h2⟩:=ylg.1 h;have ih:=yas (L:=L) e h2;have hcons:nz ((e1,c1)::L)=if c1.v≠0 then ⟨e1,c1⟩::nz L else nz L:=by simp only [nz,yoa,nzm]; split<;>split<;>simp_all
  rw [hcons];simp only [zih,mget];by_cases he:e1=e
  ·subst he;have hz:pc (nz L) e1=0:=zid fun m hm hme=>h1 (yk4.2 ⟨_,(zu1 hm).1,hme⟩);split
   ·simp [pc,hz,ykr]
   ·rename_i hc; simp at hc; simp [hz,hc]
  ·simp only [yj8 he];simp only [zih] at ih;split
   ·simp [pc,he,ih,ymk]
   ·exact ih
theorem z16 {p q:List GMono} (hp:PVal p) (hq:PVal q) {L:List (Ex × GRat)} (h:MInv (p++q) L):(padd p q).Perm (nz L):=by
 have hok:∀ m∈p++q,m.ok=true:=fun m hm=>by
  rcases yk8.1 hm with h|h
  ·exact (zak.1 hp).1 m h
  ·exact (zak.1 hq).1 m h
 have hnok:∀ m∈nz L,m.ok=true:=fun m hm=>by obtain ⟨h1,h2⟩:=zu1 hm;obtain ⟨h3,x,h4,h5⟩:=h.mem h1;simp only at h3 h5;refine GMono.ok_iff.2 ⟨?_,by rw [h3]; exact zby _,h2⟩;rw [<- h5]; exact (GMono.ok_iff.1 (hok x h4)).1
 let le:GMono->GMono->Bool:=fun a b=>decide (b.e.code<=a.e.code)
 have hperm:((nz L).mergeSort le).Perm (nz L):=List.mergeSort_perm _ _;have hsort:((nz L).mergeSort le).Pairwise fun a b=>le a b=true:=List.pairwise_mergeSort (fun a b c h1 h2=>by simp only [le,decide_eq_true_eq] at *; omega) (fun a b=>by simp only [le,ynn,decide_eq_true_eq]; omega) _;have hnd:(((nz L).mergeSort le).map (·.e)).Nodup:=(hperm.map _).nodup_iff.2 (zqg h.nod);have hval:PVal ((nz L).mergeSort le):=by
  refine zak.2 ⟨fun m hm=>hnok m (hperm.mem_iff.1 hm),?_⟩;have h2:((nz L).mergeSort le).Pairwise fun a b=>a.e≠b.e:=List.pairwise_map.1 hnd;refine (hsort.and h2).imp_of_mem fun {a b} ha hb hab=>?_;have oa:=(GMono.ok_iff.1 (hnok a (hperm.mem_iff.1 ha))).1;have ob:=(GMono.ok_iff.1 (hnok b (hperm.mem_iff.1 hb))).1;have h3:b.e.code<=a.e.code:=by simpa [le] using hab.1
  have h4:b.e.code≠a.e.code:=fun he=>hab.2 ((Ex.code_inj ob oa).1 he).symm;omega
 have:padd p q=(nz L).mergeSort le:=by refine zhu (zci q hp) hval fun e=>?_;rw [zfi p (zak.1 hq).1,z15 hperm,yas e h.nod,h.tot,zfu]
 rw [this]; exact hperm
theorem zuv {p q:List GMono} (hp:PVal p):(padd p q).Pairwise fun x y=>y.e.cmp x.e<0:=by have hv:=zak.1 (zci q hp);refine hv.2.imp_of_mem fun {a b} ha hb h=>?_;exact (Ex.cmp_neg (GMono.ok_iff.1 (hv.1 b hb)).1 (GMono.ok_iff.1 (hv.1 a ha)).1).2 h
theorem MInv.sm {p q:List GMono} {n:Nat} (hp:PVal p) (hq:PVal q) (sp:psm p n) (sq:psm q n) (hn:1<=n) {L:List (Ex × GRat)} (h:MInv (p++q) L):∀ x∈L,x.1.ok=true/\x.2.sm (n+n+1):=by
 intro x hx;obtain ⟨h1,m,h2,h3⟩:=h.mem hx;refine ⟨?_,?_⟩
 ·rw [<- h3];rcases yk8.1 h2 with h|h
  ·exact (GMono.ok_iff.1 ((zak.1 hp).1 m h)).1
  ·exact (GMono.ok_iff.1 ((zak.1 hq).1 m h)).1
 ·have ga:∀ {p:List GMono},PVal p->psm p n->∃ a:GRat,a.sm n/\a.v=pc p x.1:=fun {p} hv sp=>by
   rcases zjb hv x.1 with h|⟨y,hy,h⟩
   ·exact ⟨gr0,zgu n,by rw [zjk,h]⟩
   ·exact ⟨y.coef,sp y hy,h.symm⟩
  obtain ⟨a,a1,a2⟩:=ga hp sp;obtain ⟨b,b1,b2⟩:=ga hq sq;rw [h1,zfu,<- a2,<- b2];exact zj6 a1 b1 hn hn
def paS (r:Nat) (ms:List GMono) (k:Nat):St:=mkSt [(5,.p (.mapv r)),(14,.own 1 0 0 ms.length),(15,.p (.int .i64 ms.length)),(16,.p (.int .i64 k))] [(1,⟨6,avs ms⟩)]
def paB (r:Nat) (ms:List GMono):Option FA:=some (zh7 r (mks (zfy ms [])) (mvs (zfy ms [])))
def paI (r:Nat) (ms:List GMono) (n:Nat) (s:St) (B:Option FA):Prop:=∃ k,k<=ms.length/\n=ms.length - k/\Weak s (paS r ms k)/\B=paB r (ms.take k)
def paE (r:Nat) (ms:List GMono) (ex:Exit) (s:St) (B:Option FA):Prop:=ex=.exit 0/\Weak s (paS r ms ms.length)/\B=paB r ms
theorem zzb (ms:List GMono) (m:GMono):zfy (ms++[m]) []=madd m (zfy ms []):=by simp [zfy]
def paR:GC:=.seq (.reg [⟨some 27,.mv (.t 5),none⟩,⟨some 28,.call F.fh [.t 27],none⟩,⟨some 4,.mv (.t 28),none⟩] [[5,14,15,16],[27],[28]])
 (.ret)
theorem z17 (r:Nat) (p q:List GMono) (n:Nat) (vp:PVal p) (vq:PVal q) (sp:psm p n) (sq:psm q n) (hn1:1<=n) (hn:n<=400000) (lp:p.length<=100000) (lq:q.length<=100000) {s:St} (hw:Weak s (paS r (p++q) 0)) :
  MR P 29 (GC.blk 0 (.loop g.o7)).er s (paB r []) fun ex s B=>(ex=.normal->MR P 29 paR.er s B fun ex s _=>retP [(4,none)] (RV.pure (.sl (ens (padd p q)))) ex s)/\(ex ≠ .normal->retP [(4,none)] (RV.pure (.sl (ens (padd p q)))) ex s):=by
 have hlen:(p++q).length<=200000:=by simp; omega
 have hokm:∀ m∈p++q,m.e.ok=true/\m.coef.sm n:=fun m hm=>by
  rcases yk8.1 hm with h|h
  ·exact ⟨(GMono.ok_iff.1 ((zak.1 vp).1 m h)).1,sp m h⟩
  ·exact ⟨(GMono.ok_iff.1 ((zak.1 vq).1 m h)).1,sq m h⟩
 have hinv:∀ k,∀ x∈zfy ((p++q).take k) [],x.1.ok=true/\x.2.sm 1048576:=fun k x hx=>by have h:=minv ((p++q).take k);have e:(p++q).take k=p.take k++q.take (k - p.length):=List.take_append;rw [e] at h hx;obtain ⟨h1,h2⟩:=h.sm (vp.take k) (vq.take _) (fun m hm=>sp m (ykl hm)) (fun m hm=>sq m (ykl hm)) hn1 x hx;exact ⟨h1,h2.mono (by omega)⟩
 have hfin:=minv (p++q);have hsm:=hinv (p++q).length;rw [ykn] at hsm;have hperm:=z16 vp vq hfin;have hsort:=zuv (p:=p) (q:=q) vp;generalize hms:p++q=ms at *
 refine MR.gblk (MR.mono (MR.gloop (Post:=paE r ms) (I:=paI r ms) ms.length ⟨0,by omega,by omega,hw,rfl⟩ ?_) ?_)
 ·rintro n0 s B ⟨k,hk,rfl,hw,rfl⟩;refine MR.weak hw ?_;unfold g.o7;refine MR.gseq ?_;simp [paS,mkSt,go_sem];by_cases hlt:k<ms.length
  ·refine MR.gseq' (MR.gcond (t:=true) (by simp [go_sem,hlt]) (fun _=>MR.gnop ⟨fun _=>?_,fun h=>absurd rfl h⟩) (fun h=>by cases h));simp [go_sem];refine MR.gseq' (MR.gblk (MR.gseq ?_));simp [go_sem];refine ⟨hlt,zae hlt ?_⟩;have hmk:=hokm ms[k] (yk2 hlt);refine MR.greg (zlq 5 [[],[],[21],[7],[23]] ?_);simp [go_sem];refine MIns.cons (zsr (args:=[enc ms[k].e,enc ms[k].coef]) (zr0 ms[k] _ hmk.1 (hmk.2.mono (by omega)) (hinv k)) (by simp [go_sem]) (zqi _) (zqh _) ?_);refine ze7 [[20,22,24,25]] ?_;simp [go_sem];refine ⟨fun _=>MR.of_vm ?_,fun h=>absurd rfl h⟩;have e3:=i64s k (by omega);simp [go_sem,e3];refine ⟨_,?_,k+1,by omega,rfl,Weak.to [5,14,15,16] [((1,0),1)] (by simp [paS,mkSt,go_sem]),?_⟩
   ·omega
   ·simp only [paB]; rw [ykb hlt,zzb]
  ·have hk':k=ms.length:=by omega
   refine MR.gseq' (MR.gcond (t:=false) (by simp [go_sem,hlt]) (fun h=>by cases h) (fun _=>MR.gext ⟨fun h=>(by cases h),fun _=>⟨fun h=>(by cases h),fun _=>⟨rfl,?_,?_⟩⟩⟩))
   ·exact Weak.to [5,14,15,16] [((1,0),1)] (by simp [paS,mkSt,go_sem,hk'])
   ·rw [hk',ykn]
 ·rintro ex s B ⟨rfl,hw,rfl⟩;refine ⟨fun _=>?_,fun h=>absurd rfl h⟩;refine MR.weak hw (MR.freeze (t:=5) rfl ?_);refine MR.of_vm ?_;simp [paR,paS,mkSt,go_sem];have hpl:=zw1 p q;refine zct (zom r (zfy ms []) (fun x hx=>(hsm x hx).2.mono (by omega)) hfin.nod (by have:=hfin.len; omega) (padd p q) hperm hsort) (by simp [go_sem]) ⟨zed _ _ rfl,by decide,by simp [ens,LIM]; omega⟩ _ rfl ?_;simp [go_sem,killAll]
theorem zy1 (p q:List GMono) (n:Nat) (sp:psm p n) (sq:psm q n) (hn1:1<=n) (hn:n<=400000) (lp:p.length<=100000) (lq:q.length<=100000) :
  Sp P F.l4 [.sl (ens p),.sl (ens q)] (.pure (.sl (ens (padd (pv p) (pv q))))):=by
 refine Sp.of_mr c.l4 (by simp) ?_;unfold g.l4;generalize hP:(fun ex s (_:Option FA)=>retP [(4,none)] (RV.pure (.sl (ens (padd (pv p) (pv q))))) ex s)=Post;have vp:=z8w p;have vq:=z8w q;have s1:=z8x sp;have s2:=z8x sq;have l1:=z8y p;have l2:=z8y q;refine MR.gseq ?_;simp [go_sem];refine MR.gseq' (MR.greg (MIns.cons (zmx fun r=>?_)));refine ze7 [[8]] ?_;simp [go_sem];refine MR.gseq' (MR.gseq ?_);simp [go_sem];refine zaa (zi9 p (sp.mono (by omega)) (by omega)) rfl ?_;simp [go_sem];refine zaa (zi9 q (sq.mono (by omega)) (by omega)) rfl ?_;simp [go_sem];refine zct (z4c (pv p) (pv q) (by omega)) (by simp [go_sem]) ⟨zed _ _ rfl,by decide,by simp [ens,LIM]; omega⟩ _ rfl ?_;cases hfl:(ens (pv p++pv q)).all PV.flat
 ·simp [go_sem,killAll];subst hP;refine z17 r (pv p) (pv q) n vp vq s1 s2 hn1 hn (by omega) (by omega) ?_;exact Weak.to [5,14,15,16] [((14,0),1)] (by simp [paS,mkSt,go_sem])
 ·simp [go_sem];subst hP;refine z17 r (pv p) (pv q) n vp vq s1 s2 hn1 hn (by omega) (by omega) ?_;exact Weak.to [5,14,15,16] [((14,0),1)] (by simp [paS,mkSt,go_sem])
end Go.Ab
namespace Go.Ab
open Enc (enc)
attribute [local go_sem] zal Opd.slots
theorem GRat.sm.monoR {x:GRat} {m n:Nat} (h:x.sm m) (k:m<=n):x.sm n:=⟨yka h.1 k,yka h.2 k⟩
theorem psm.monoR {p:List GMono} {m n:Nat} (h:psm p m) (k:m<=n):psm p n:=fun x hx=>(h x hx).monoR k
theorem GW.sm.mono {m n:Nat} (k:m<=n):∀ w:GW,w.sm m->w.sm n:=by
 refine GW.sm.ind fun v hv ih=>?_;cases v with
 | mk q c i s p ps=>exact .mk (hv.q.monoR k) (hv.poly.monoR k) (yka hv.len k) (yka hv.plen k) ih
theorem GW.sm.one (k:Int) {n:Nat} {q:GRat} {c:Int} {i:Bool} {s:UInt64} {p:List GMono} (hq:q.sm n) (hp:psm p n) (hl:p.length<=n):(GW.mk q c i s p []).sm n:=.mk hq hp hl (by simp) (by simp)
theorem zmk (n:Nat):psm [] n:=by intro m hm; simp at hm
theorem zwt {k:Int} {v w:GW} {m n:Nat} (hv:v.sm m) (hw:w.sm n) (cv:v.chk ⟨k,[]⟩) (cw:w.chk ⟨k,[]⟩) (hm:1<=m) (hn:1<=n):(zaq k v w).sm (m+n+1):=by
 unfold zaq;have hv':=hv.mono (show m<=m+n+1 by omega);have hw':=hw.mono (show n<=m+n+1 by omega);split
 ·exact .one 0 (zj6 hv.q hw.q hm hn) (zmk _) (by simp)
 ·split
  ·split
   ·exact hw'
   ·exact hv'
  ·split
   ·split
    ·exact hw'
    ·exact hv'
   ·split
    ·exact .one 0 (zgu _) (zmk _) (by simp)
    ·exact .one 0 (zgu _) (yat (zof cv) (zof cw) hv.poly hw.poly hm hn) (by have:=zw1 v.poly w.poly; have:=hv.len; have:=hw.len; omega)
theorem zdw {a b:Nat} (h:a<=b):4294967296^a<=4294967296^b:=yl3 (by omega) h
theorem z6l (v w:GW) (n:Nat) (hv:v.sm n) (hw:w.sm n) (hn:n<=2000) (hn1:1<=n) (cv:v.chk ⟨5,[]⟩) (cw:w.chk ⟨5,[]⟩):Sp P F.aa [enc (⟨5,[]⟩:GRing),enc v,enc w] (.pure (enc (zaq 5 v w))):=by
 have pv:=zof cv;have pw:=zof cw;have h1:=zwq pv hv.poly hn1 (zhx w.poly);have h2:=zwq pw hw.poly hn1 (zhx v.poly);rw [ykz (pden w.poly)] at h2;have hl1:=zbm pv;have hl2:=zbm pw;have d1:=zus hv.poly hn1;have d2:=zus hw.poly hn1;have hD:pden v.poly*pden w.poly<4294967296^(434*n+2):=by refine ykc (ylp d1 d2) ?_;rw [<- Nat.pow_add];refine zdw ?_;have e1:n*v.poly.length<=n*216:=yly _ hl1;have e2:n*w.poly.length<=n*216:=yly _ hl2;omega
 have hB:4294967296^n*(pden v.poly*pden w.poly)<4294967296^(435*n+2):=by
  have:435*n+2=n+(434*n+2):=by omega
  rw [this,ykm];exact Nat.mul_lt_mul_of_pos_left hD (ylf (by omega))
 have hD0:pden v.poly*pden w.poly≠0:=ym9 (zhx _) (zhx _);have hD':=ykc hD (zdw (show 434*n+2<=1048576 by omega));have hB':=ykc (zl4 _ _ _ hB hB) (zdw (show 435*n+2+1<=1048576 by omega));exact z1t v w (hv.mono (by omega)) (hw.mono (by omega)) cv cw _ _ _ h1 h2 hD0 hD' hB'
theorem zww (k:Int) (hk:1<=k/\k<=5) (v w:GW) (n:Nat) (hv:v.sm n) (hw:w.sm n) (hn:n<=2000) (hn1:1<=n) (cv:v.chk ⟨k,[]⟩) (cw:w.chk ⟨k,[]⟩) :
  Sp P F.aa [enc (⟨k,[]⟩:GRing),enc v,enc w] (.pure (enc (zaq k v w))):=by
 have hv':=hv.mono (show n<=1048576 by omega);have hw':=hw.mono (show n<=1048576 by omega);have:k=1\/k=2\/k=3\/k=4\/k=5:=by omega
 rcases this with rfl|rfl|rfl|rfl|rfl
 ·exact z1x v w hv' hw' cv cw
 ·exact z1w v w hv' hw' cv cw
 ·exact z1v v w hv' hw' cv cw
 ·exact z1u v w hv' hw' cv cw
 ·exact z6l v w n hv hw hn hn1 cv cw
def zd6:List Int->List GW->List GW->List GW
 | k::ks,v::vs,w::ws=>zaq k v w::zd6 ks vs ws
 | _,_,_=>[]
def GRing.plus (r:GRing) (v w:GW):GW:=if r.kind=6 then .mk gr0 0 false 0 [] (zd6 r.parts v.parts w.parts) else zaq r.kind v w
theorem zbc:∀ {ks:List Int} {vs ws:List GW},vs.length=ks.length->ws.length=ks.length->(zd6 ks vs ws).length=ks.length
 | [],vs,ws,_,_=>by simp [zd6]
 | k::ks,[],ws,h,_=>by simp at h
 | k::ks,v::vs,[],_,h=>by simp at h
 | k::ks,v::vs,w::ws,h1,h2=>by simp [zd6,zbc (ks:=ks) (vs:=vs) (ws:=ws) (by simpa using h1) (by simpa using h2)]
theorem zbl:∀ {ks:List Int} {vs ws:List GW} {i:Nat} (h:i<ks.length) (h1:i<vs.length) (h2:i<ws.length) (h3:i<(zd6 ks vs ws).length),(zd6 ks vs ws)[i]=zaq ks[i] vs[i] ws[i]
 | k::ks,v::vs,w::ws,0,_,_,_,_=>by simp [zd6]
 | k::ks,v::vs,w::ws,i+1,h,h1,h2,h3=>by simp only [zd6,List.getElem_cons_succ];exact zbl (by simpa using h) (by simpa using h1) (by simpa using h2) (by simpa [zd6] using h3)
theorem z1s (r:GRing) (v w:GW) (hv:v.sm 1048576) (hw:w.sm 1048576) (cv:v.chk r) (cw:w.chk r) (h6:r.kind=6)
  (hpart:∀ i (h:i<r.parts.length) (h1:i<v.parts.length) (h2:i<w.parts.length),Sp P F.aa [enc (⟨r.parts[i],[]⟩:GRing),enc v.parts[i],enc w.parts[i]] (.pure (enc (zaq r.parts[i] v.parts[i] w.parts[i])))) :
  Sp P F.aa [enc r,enc v,enc w] (.pure (enc (r.plus v w))):=by
 have hr0:=cv.1;have hp:=GRing.ok_parts hr0 h6;have t1:v.tk r=v:=yj9 cv;have t2:w.tk r=w:=yj9 cw;have k1:=zay r v (hv.mono (by omega));have k2:=zay r w (hw.mono (by omega));rw [t1] at k1; rw [t2] at k2;have lv:=(cv.2.2 h6).1;have lw:=(cw.2.2 h6).1;have lp:(zd6 r.parts v.parts w.parts).length=r.parts.length:=zbc lv lw;refine Sp.vz c.aa fun _=>?_;simp [g.aa,go_sem];refine zaa (zax r) rfl ?_;simp [hr0,go_sem];refine zab k1 ?_;simp [go_sem];refine zab k2 ?_;simp [go_sem,h6]
 refine zai (S:=fun k:Nat=>mkSt [(3,.ptr 1 0 0 0),(4,.ptr 2 0 0 0),(5,.ptr 3 0 0 0),(6,.ptr 4 0 0 0),(7,.ptr 5 0 0 0),(8,.p (.int .i64 k))]
   [(1,⟨2,[.p (enc r)]⟩),(2,⟨8,[.p (enc v)]⟩),(3,⟨8,[.p (enc w)]⟩),(4,⟨8,[.agg [.p (.bool false),.nil,.nil,.p (.int .i64 0),.p (.bool false),.p (.int .u64 0),.nil,.nil]]⟩),
    (5,⟨8,[.agg [.p (.bool false),.nil,.nil,.p (.int .i64 0),.p (.bool false),.p (.int .u64 0),.nil,.own 6 0 0 k]]⟩),(6,⟨8,avs ((zd6 r.parts v.parts w.parts).take k)⟩)])
  (I:=fun k=>k<=r.parts.length) (m:=fun k=>r.parts.length - k) 0
  ((Weak.nilCell (s0:=7) (g0:=0) (i:=7) (s:=77) (sz:=8) rfl).trans (Weak.to [3,4,5,6,7,8] [((3,0),1),((4,0),2),((5,0),3),((6,0),4),((7,0),5),((77,0),6)] (by simp [go_sem,h6]))) (by omega) ?_
 rintro k h1 R hn' hr hx;have e1:=i64s k (by omega);simp [g.p8,mkSt,go_sem];refine ⟨fun hk=>?_,fun hk=>hx _ _ ?_⟩
 ·have hkv:k<v.parts.length:=by omega
  have hkw:k<w.parts.length:=by omega
  have hpk:=hp.2.2 _ (yk2 hk);refine zaa (zjc r k hk) rfl ?_;simp [go_sem];refine zae hkv ?_
  try simp [go_sem]
  refine zae hkw ?_
  try simp [go_sem]
  refine zab (hpart k hk hkv hkw) ?_;have hkL:k<(zd6 r.parts v.parts w.parts).length:=by omega
  have hts:avs ((zd6 r.parts v.parts w.parts).take (k+1))=avs ((zd6 r.parts v.parts w.parts).take k)++[.p (enc (zaq r.parts[k] v.parts[k] w.parts[k]))]:=by rw [ykb hkL,zcy,zbl hk hkv hkw hkL]; rfl
  simp [e1,go_sem];exact ⟨⟨by omega,by omega⟩,hn' (k+1) _ (Weak.to [3,4,5,6,7,8] [((1,0),1),((2,0),2),((3,0),3),((4,0),4),((5,0),5),((97,0),6)] (by simp [go_sem,hts])) (by omega) (by omega)⟩
 ·have hk':k=(zd6 r.parts v.parts w.parts).length:=by omega
  have hpl:r.plus v w=.mk gr0 0 false 0 [] (zd6 r.parts v.parts w.parts):=by simp [GRing.plus,h6]
  rw [hpl];subst hk';simp [go_sem]
theorem z6k (r:GRing) (v w:GW) (n:Nat) (hv:v.sm n) (hw:w.sm n) (hn:n<=2000) (hn1:1<=n) (cv:v.chk r) (cw:w.chk r):Sp P F.aa [enc r,enc v,enc w] (.pure (enc (r.plus v w))):=by
 have hr0:=cv.1;by_cases h6:r.kind=6;rotate_left
 ·have hk:=GRing.ok_kind hr0 h6;have he:r=⟨r.kind,[]⟩:=by rw [<- hk.2.2]
  have h1:r.plus v w=zaq r.kind v w:=by simp [GRing.plus,h6]
  rw [h1,he];rw [he] at cv cw;exact zww r.kind ⟨hk.1,hk.2.1⟩ v w n hv hw hn hn1 cv cw
 exact z1s r v w (hv.mono (by omega)) (hw.mono (by omega)) cv cw h6 fun i h h1 h2 =>
  zww r.parts[i] ((GRing.ok_parts hr0 h6).2.2 _ (yk2 h)) v.parts[i] w.parts[i] n (hv.parts _ (yk2 h1)) (hw.parts _ (yk2 h2)) hn hn1 (zeo cv h6 h h1) (zeo cw h6 h h2)
end Go.Ab
namespace Go.Ab
open Enc (enc)
theorem z1k (v w:GW) (n:Nat) (hv:v.sm n) (hw:w.sm n) (hn:n<=400000) (hn1:1<=n) (pv':PVal v.poly) (pw:PVal w.poly):Sp P F.fc [enc v,enc w] (.pure (enc (zaq 5 v w))):=by
 have h1:v.poly.length<=100000:=by have:=zbm pv'; omega
 have h2:w.poly.length<=100000:=by have:=zbm pw; omega
 have k:=zy1 v.poly w.poly n hv.poly hw.poly hn1 hn h1 h2;rw [zn4 pv',zn4 pw] at k;refine Sp.vz c.fc fun _=>?_;simp [g.fc,go_sem];refine zaa k rfl ?_;simp [go_sem,zaq,gr0]
theorem zwv (k:Int) (hk:1<=k/\k<=5) (v w:GW) (n:Nat) (hv:v.sm n) (hw:w.sm n) (hn:n<=400000) (hn1:1<=n) (sv:v.si k) (sw:w.si k):Sp P (kF3 k) (enc v::enc w::kC3 k) (.pure (enc (zaq k v w))):=by
 have:k=1\/k=2\/k=3\/k=4\/k=5:=by omega
 have hv':=hv.mono (show n<=1048576 by omega);have hw':=hw.mono (show n<=1048576 by omega);rcases this with rfl|rfl|rfl|rfl|rfl
 ·exact z6d v w hv' hw'
 ·exact z78 v w sv sw
 ·exact z7j v w hv' hw' sv sw
 ·exact z5w v w
 ·exact z1k v w n hv hw (by omega) hn1 (sv.2.2.2.2.2.2.2.2 rfl) (sw.2.2.2.2.2.2.2.2 rfl)
theorem yaj (r:GRing) (v w:GW) (n:Nat) (hv:v.sm n) (hw:w.sm n) (hn:n<=400000) (hn1:1<=n) (cv:v.chk r) (cw:w.chk r) (h6:r.kind≠6):Sp P F.am [enc r,enc v,enc w] (.pure (enc (zaq r.kind v w))):=by have hr0:=cv.1;have hk:=GRing.ok_kind hr0 h6;have t1:v.tk r=v:=yj9 cv;have t2:w.tk r=w:=yj9 cw;have k1:=zds r v (hv.mono (by omega));have k2:=zds r w (hw.mono (by omega));rw [t1] at k1; rw [t2] at k2;refine Sp.vz c.am fun _=>?_;simp [g.am,go_sem];refine zaa (zeu r) rfl ?_;simp [hr0,go_sem];refine zab k1 ?_;simp [go_sem];refine zab k2 ?_;simp [go_sem,h6];obtain ⟨f5,f6,f7,f8,c5,c8,hA⟩:=zen r.kind ⟨hk.1,hk.2.1⟩;refine zaa (zkf r.kind ⟨hk.1,hk.2.1⟩) rfl ?_;simp [hA,go_sem];refine zaa (zwv r.kind ⟨hk.1,hk.2.1⟩ v w n hv hw hn hn1 (cv.2.1 h6) (cw.2.1 h6)) (zbz (by simp [go_sem]) (zbz (by simp [go_sem]) (zgi _ _))) ?_;simp [go_sem]
theorem z1r (k:Int) (hk:1<=k/\k<=5) (v w:GW) (i n:Nat) (iv:i<v.parts.length) (iw:i<w.parts.length) (hi:i<=3) (hv:v.parts[i].sm n) (hw:w.parts[i].sm n) (hn:n<=400000) (hn1:1<=n) (sv:v.parts[i].si k) (sw:w.parts[i].si k) :
  Sp P F.gj [zm6 k,.int .i64 i,.ref (enc v),.ref (enc w)] (.pure (enc (zaq k v.parts[i] w.parts[i]))):=by
 obtain ⟨f5,f6,f7,f8,c5,c8,hA⟩:=zen k hk;rw [hA];refine Sp.of_vmW c.gj (by simp) ((Weak.openRef (t:=2) (v:=enc v) (n:=8) (by simp [go_sem]) (by simp [go_sem])).trans (Weak.openRef (t:=3) (v:=enc w) (n:=8) (by simp [go_sem]) (by simp [go_sem]))) ?_;simp [g.gj,go_sem];refine zae iv ?_;refine zae iw ?_;refine zaa (zwv k hk v.parts[i] w.parts[i] n hv hw hn hn1 sv sw) (zbz (by simp [go_sem]) (zbz (by simp [go_sem]) (zgi _ _))) ?_;simp [go_sem]
theorem ziz (st:St) (s g ix off:Nat):toPV st 5 (.ptr s g ix off)=if ix=0/\off=0 then match st.obj s g with
  | some o=>match o.es with
   | [e]=>(toPV st 4 e).map .ref
   | _=>none
  | none=>none
  else none:=rfl
theorem zpx (st:St) (v:PV):toPV st 4 (.p v)=some v:=rfl
theorem zsj (r:GRing) (v w:GW) (n:Nat) (hv:v.sm n) (hw:w.sm n) (hn:n<=400000) (hn1:1<=n) (cv:v.chk r) (cw:w.chk r):Sp P F.am [enc r,enc v,enc w] (.pure (enc (r.plus v w))):=by
 have hr0:=cv.1;by_cases h6:r.kind=6;rotate_left
 ·have h1:r.plus v w=zaq r.kind v w:=by simp [GRing.plus,h6]
  rw [h1]; exact yaj r v w n hv hw hn hn1 cv cw h6
 have hp:=GRing.ok_parts hr0 h6;have t1:v.tk r=v:=yj9 cv;have t2:w.tk r=w:=yj9 cw;have k1:=zds r v (hv.mono (by omega));have k2:=zds r w (hw.mono (by omega));rw [t1] at k1; rw [t2] at k2;have lv:=(cv.2.2 h6).1;have lw:=(cw.2.2 h6).1;have lp:(zd6 r.parts v.parts w.parts).length=r.parts.length:=zbc lv lw;refine Sp.vz c.am fun _=>?_;simp [g.am,go_sem];refine zaa (zeu r) rfl ?_;simp [hr0,go_sem];refine zab k1 ?_;simp [go_sem];refine zab k2 ?_;simp [go_sem,h6];refine zaa (zvn r hp.2.2 hp.2.1 F.gj [.ref (enc v),.ref (enc w)] (zd6 r.parts v.parts w.parts) lp fun i h h'=>?_) ?_ ?_
 ·rw [zbl h (by omega) (by omega) h'];exact z1r r.parts[i] (hp.2.2 _ (yk2 h)) v w i n (by omega) (by omega) (by omega) (hv.parts _ (yk2 _)) (hw.parts _ (yk2 _)) hn hn1 ((cv.2.2 h6).2.2 i h (by omega)) ((cw.2.2 h6).2.2 i h (by omega))
 ·simp [go_sem,ziz,zpx,h6]
 simp [go_sem,GRing.plus,h6]
theorem zlo (r:GRing) (v w:GW) (n:Nat) (hv:v.sm n) (hw:w.sm n) (hn:n<=2000) (hn1:1<=n) (cv:v.chk r) (cw:w.chk r):Sp P F.am [enc r,enc v,enc w] (.pure (enc (r.plus v w))):=zsj r v w n hv hw (by omega) hn1 cv cw
theorem ziq {k:Int} (hk:1<=k/\k<=5):(zb5 k).si k:=by
 have:k=1\/k=2\/k=3\/k=4\/k=5:=by omega
 have h1:=zne;rcases this with rfl|rfl|rfl|rfl|rfl
 ·rw [si1]; exact ⟨rfl,rfl,rfl,rfl,rfl,h1⟩
 ·rw [si2]; exact ⟨rfl,rfl,rfl,rfl,Int.le_refl 0,by simp [zb5,GW.cost],fun _=>rfl⟩
 ·rw [si3]; exact ⟨rfl,rfl,rfl,rfl,rfl,h1,by show 0<=gr0.v; rw [zjk]; decide,by show gr0.v<=1; rw [zjk]; decide⟩
 ·rw [si4]; exact ⟨rfl,rfl,rfl,rfl,rfl⟩
 ·rw [si5]; exact ⟨rfl,rfl,rfl,rfl,rfl,zmt⟩
theorem zb9 {k:Int} (hk:1<=k/\k<=5) {v w:GW} (hv:v.si k) (hw:w.si k):(zaq k v w).si k:=by
 have:k=1\/k=2\/k=3\/k=4\/k=5:=by omega
 rcases this with rfl|rfl|rfl|rfl|rfl
 ·rw [si1]; exact ⟨rfl,rfl,rfl,rfl,rfl,zby _⟩
 ·unfold zaq; simp only [yj8 (show ¬ (2:Int)=1 by decide),yj9]; split<;>assumption
 ·unfold zaq; simp only [yj8 (show ¬ (3:Int)=1 by decide),yj8 (show ¬ (3:Int)=2 by decide),yj9]; split<;>assumption
 ·rw [si4]; exact ⟨rfl,rfl,rfl,rfl,rfl⟩
 ·rw [si5]; exact ⟨rfl,rfl,rfl,rfl,rfl,zci _ (si_p hv)⟩
theorem zox {k:Int} (hk:1<=k/\k<=5) {v:GW} (hv:v.si k):zaq k v (zb5 k)=v:=by
 have:k=1\/k=2\/k=3\/k=4\/k=5:=by omega
 cases v with
 | mk q c i s p ps =>
 rcases this with rfl|rfl|rfl|rfl|rfl
 ·obtain ⟨h1,h2,h3,h4,h5,h6⟩:=si1.1 hv;simp only [GW.parts_mk,GW.inf_mk,GW.cost_mk,GW.set_mk,GW.poly_mk,GW.q_mk] at h1 h2 h3 h4 h5 h6;subst h1 h2 h3 h4 h5;simp [zaq,zb5,GW.q_mk,zjk,ykr,zg4 h6]
 ·obtain ⟨h1,h2,h3,h4,h5,h6,h7⟩:=si2.1 hv;simp only [GW.parts_mk,GW.inf_mk,GW.cost_mk,GW.set_mk,GW.poly_mk,GW.q_mk] at h1 h2 h3 h4 h5 h6 h7;subst h1 h2 h3 h4;cases i
  ·simp [zaq,zb5,GW.inf_mk]
  ·have:=h7 rfl; subst this;simp [zaq,zb5,GW.inf_mk]
 ·obtain ⟨h1,h2,h3,h4,h5,h6,h7,h8⟩:=si3.1 hv;simp only [GW.parts_mk,GW.inf_mk,GW.cost_mk,GW.set_mk,GW.poly_mk,GW.q_mk] at h1 h2 h3 h4 h5 h6 h7;have:¬ q.v<0:=ymd.2 h7;simp [zaq,zb5,GW.q_mk,zjk,this]
 ·obtain ⟨h1,h2,h3,h4,h5⟩:=si4.1 hv;simp only [GW.parts_mk,GW.inf_mk,GW.cost_mk,GW.set_mk,GW.poly_mk,GW.q_mk] at h1 h2 h3 h4 h5;subst h1 h2 h3 h4 h5;simp [zaq,zb5,GW.set_mk]
 ·obtain ⟨h1,h2,h3,h4,h5,h6⟩:=si5.1 hv;simp only [GW.parts_mk,GW.inf_mk,GW.cost_mk,GW.set_mk,GW.poly_mk,GW.q_mk] at h1 h2 h3 h4 h5 h6;subst h1 h2 h3 h4 h5;simp [zaq,zb5,GW.poly_mk,padd]
theorem zbq {r:GRing} (h:r.ok=true):r.zero.chk r:=by
 by_cases h6:r.kind=6
 ·refine ⟨h,fun h'=>absurd h6 h',fun _=>?_⟩;have hp:=GRing.ok_parts h h6;simp [GRing.zero,h,h6,GW.parts_mk];exact fun i hi _=>ziq (hp.2.2 _ (yk2 hi))
 ·have hk:=GRing.ok_kind h h6;refine ⟨h,fun _=>?_,fun h'=>absurd h' h6⟩;have:r.zero=zb5 r.kind:=by simp [GRing.zero,h,zb5,hk.2.2]
  rw [this]; exact ziq ⟨hk.1,hk.2.1⟩
theorem z42 (k:Int) (n:Nat):(zb5 k).sm n:=.one k (zgu n) (zmk n) (by simp)
theorem zz5 {r:GRing} {n:Nat} (h:r.ok=true) (hn:3<=n):r.zero.sm n:=by
 have:r.zero=.mk gr0 0 (decide (r.kind=2)) 0 [] (r.parts.map zb5):=by simp [GRing.zero,h]
 rw [this];have hl:r.parts.length<=3:=by
  by_cases h6:r.kind=6
  ·exact (GRing.ok_parts h h6).2.1
  ·simp [(GRing.ok_kind h h6).2.2]
 refine .mk (zgu n) (zmk n) (by simp) (by simp; omega) fun w hw=>?_;obtain ⟨k,_,rfl⟩:=yk4.1 hw;exact z42 k n
theorem zch {r:GRing} {v w:GW} (hv:v.chk r) (hw:w.chk r):(r.plus v w).chk r:=by
 by_cases h6:r.kind=6
 ·have hp:=GRing.ok_parts hv.1 h6;have lv:=(hv.2.2 h6).1;have lw:=(hw.2.2 h6).1;refine ⟨hv.1,fun h=>absurd h6 h,fun _=>?_⟩;have e:r.plus v w=.mk gr0 0 false 0 [] (zd6 r.parts v.parts w.parts):=by simp [GRing.plus,h6]
  rw [e];refine ⟨zbc lv lw,rfl,fun i h h'=>?_⟩;simp only [GW.parts_mk] at h' ⊢;rw [zbl h (by omega) (by omega) h'];exact zb9 (hp.2.2 _ (yk2 h)) ((hv.2.2 h6).2.2 i h (by omega)) ((hw.2.2 h6).2.2 i h (by omega))
 ·have hk:=GRing.ok_kind hv.1 h6;have e:r.plus v w=zaq r.kind v w:=by simp [GRing.plus,h6]
  rw [e];exact ⟨hv.1,fun _=>zb9 ⟨hk.1,hk.2.1⟩ (hv.2.1 h6) (hw.2.1 h6),fun h=>absurd h h6⟩
theorem zc3 {r:GRing} {v:GW} (hv:v.chk r):r.plus v r.zero=v:=by
 by_cases h6:r.kind=6
 ·have hp:=GRing.ok_parts hv.1 h6;obtain ⟨lv,ev,sv⟩:=hv.2.2 h6;have e:r.plus v r.zero=.mk gr0 0 false 0 [] (zd6 r.parts v.parts r.zero.parts):=by simp [GRing.plus,h6]
  have ez:r.zero.parts=r.parts.map zb5:=by simp [GRing.zero,hv.1,GW.parts_mk]
  rw [e,ez,ev];simp only [GW.parts_mk]
  congr 1
  refine ynj (by rw [zbc lv (by simp),lv]) fun i h1 h2=>?_;have h3:i<r.parts.length:=by rw [<- lv]; exact h2
  rw [zbl h3 h2 (by simpa using h3) h1];simp only [List.getElem_map];exact zox (hp.2.2 _ (List.getElem_mem h3)) (sv i h3 h2)
 ·have hk:=GRing.ok_kind hv.1 h6;have e:r.plus v r.zero=zaq r.kind v r.zero:=by simp [GRing.plus,h6]
  have ez:r.zero=zb5 r.kind:=by simp [GRing.zero,hv.1,zb5,hk.2.2]
  rw [e,ez];exact zox ⟨hk.1,hk.2.1⟩ (hv.2.1 h6)
theorem z1p {r:GRing} {v w:GW} {m n:Nat} (sv:v.sm m) (sw:w.sm n) (hv:v.chk r) (hw:w.chk r) (hm:1<=m) (hn:1<=n):(r.plus v w).sm (m+n+1):=by
 by_cases h6:r.kind=6
 ·have hp:=GRing.ok_parts hv.1 h6;have lv:=(hv.2.2 h6).1;have lw:=(hw.2.2 h6).1;have e:r.plus v w=.mk gr0 0 false 0 [] (zd6 r.parts v.parts w.parts):=by simp [GRing.plus,h6]
  have hl:=zbc (ks:=r.parts) (vs:=v.parts) (ws:=w.parts) lv lw;rw [e];refine .tup (by rw [hl,<- lv]; have:=sv.plen; omega) fun x hx=>?_;obtain ⟨i,hi,rfl⟩:=ylq.1 hx;have h3:i<r.parts.length:=by omega
  rw [zbl h3 (by omega) (by omega) hi];exact zwt (sv.parts _ (yk2 _)) (sw.parts _ (yk2 _)) (zeo hv h6 h3 (by omega)) (zeo hw h6 h3 (by omega)) hm hn
 ·have hk:=GRing.ok_kind hv.1 h6;have e:r.plus v w=zaq r.kind v w:=by simp [GRing.plus,h6]
  have er:r=⟨r.kind,[]⟩:=by rw [<- hk.2.2]
  rw [e];rw [er] at hv hw;exact zwt sv sw hv hw hm hn
theorem z0h {r:GRing} {w:GW} (h:w.chk r):w.tk r=w:=yj9 h
end Go.Ab
namespace Go.Ab
open Enc (enc)
attribute [local go_sem] zal Opd.slots
def zcn:List Int->List GW->List GW->List GW
 | k::ks,v::vs,w::ws=>zao k v w::zcn ks vs ws
 | _,_,_=>[]
def GRing.times (r:GRing) (v w:GW):GW:=if r.kind=6 then .mk gr0 0 false 0 [] (zcn r.parts v.parts w.parts) else zao r.kind v w
theorem zaz:∀ {ks:List Int} {vs ws:List GW},vs.length=ks.length->ws.length=ks.length->(zcn ks vs ws).length=ks.length
 | [],vs,ws,_,_=>by simp [zcn]
 | k::ks,[],ws,h,_=>by simp at h
 | k::ks,v::vs,[],_,h=>by simp at h
 | k::ks,v::vs,w::ws,h1,h2=>by simp [zcn,zaz (ks:=ks) (vs:=vs) (ws:=ws) (by simpa using h1) (by simpa using h2)]
theorem za8:∀ {ks:List Int} {vs ws:List GW} {i:Nat} (h:i<ks.length) (h1:i<vs.length) (h2:i<ws.length) (h3:i<(zcn ks vs ws).length),(zcn ks vs ws)[i]=zao ks[i] vs[i] ws[i]
 | k::ks,v::vs,w::ws,0,_,_,_,_=>by simp [zcn]
 | k::ks,v::vs,w::ws,i+1,h,h1,h2,h3=>by simp only [zcn,List.getElem_cons_succ];exact za8 (by simpa using h) (by simpa using h1) (by simpa using h2) (by simpa [zcn] using h3)
theorem z5f (r:GRing) (v w:GW) (hv:v.sm 1048576) (hw:w.sm 1048576) (cv:v.chk r) (cw:w.chk r) (h6:r.kind=6)
  (hpart:∀ i (h:i<r.parts.length) (h1:i<v.parts.length) (h2:i<w.parts.length),Sp P F.ae [enc (⟨r.parts[i],[]⟩:GRing),enc v.parts[i],enc w.parts[i]] (.pure (enc (zao r.parts[i] v.parts[i] w.parts[i])))) :
  Sp P F.ae [enc r,enc v,enc w] (.pure (enc (r.times v w))):=by
 have hr0:=cv.1;have hp:=GRing.ok_parts hr0 h6;have t1:v.tk r=v:=yj9 cv;have t2:w.tk r=w:=yj9 cw;have k1:=zay r v (hv.mono (by omega));have k2:=zay r w (hw.mono (by omega));rw [t1] at k1; rw [t2] at k2;have lv:=(cv.2.2 h6).1;have lw:=(cw.2.2 h6).1;have lp:(zcn r.parts v.parts w.parts).length=r.parts.length:=zaz lv lw;refine Sp.vz c.ae fun _=>?_;simp [g.ae,go_sem];refine zaa (zax r) rfl ?_;simp [hr0,go_sem];refine zab k1 ?_;simp [go_sem];refine zab k2 ?_;simp [go_sem,h6]
 refine zai (S:=fun k:Nat=>mkSt [(3,.ptr 1 0 0 0),(4,.ptr 2 0 0 0),(5,.ptr 3 0 0 0),(6,.ptr 4 0 0 0),(7,.ptr 5 0 0 0),(8,.p (.int .i64 k))]
   [(1,⟨2,[.p (enc r)]⟩),(2,⟨8,[.p (enc v)]⟩),(3,⟨8,[.p (enc w)]⟩),(4,⟨8,[.agg [.p (.bool false),.nil,.nil,.p (.int .i64 0),.p (.bool false),.p (.int .u64 0),.nil,.nil]]⟩),
    (5,⟨8,[.agg [.p (.bool false),.nil,.nil,.p (.int .i64 0),.p (.bool false),.p (.int .u64 0),.nil,.own 6 0 0 k]]⟩),(6,⟨8,avs ((zcn r.parts v.parts w.parts).take k)⟩)])
  (I:=fun k=>k<=r.parts.length) (m:=fun k=>r.parts.length - k) 0
  ((Weak.nilCell (s0:=7) (g0:=0) (i:=7) (s:=77) (sz:=8) rfl).trans (Weak.to [3,4,5,6,7,8] [((3,0),1),((4,0),2),((5,0),3),((6,0),4),((7,0),5),((77,0),6)] (by simp [go_sem,h6]))) (by omega) ?_
 rintro k h1 R hn' hr hx;have e1:=i64s k (by omega);simp [g.p9,mkSt,go_sem];refine ⟨fun hk=>?_,fun hk=>hx _ _ ?_⟩
 ·have hkv:k<v.parts.length:=by omega
  have hkw:k<w.parts.length:=by omega
  have hpk:=hp.2.2 _ (yk2 hk);refine zaa (zjc r k hk) rfl ?_;simp [go_sem];refine zae hkv ?_
  try simp [go_sem]
  refine zae hkw ?_
  try simp [go_sem]
  refine zab (hpart k hk hkv hkw) ?_;have hkL:k<(zcn r.parts v.parts w.parts).length:=by omega
  have hts:avs ((zcn r.parts v.parts w.parts).take (k+1))=avs ((zcn r.parts v.parts w.parts).take k)++[.p (enc (zao r.parts[k] v.parts[k] w.parts[k]))]:=by rw [ykb hkL,zcy,za8 hk hkv hkw hkL]; rfl
  simp [e1,go_sem];exact ⟨⟨by omega,by omega⟩,hn' (k+1) _ (Weak.to [3,4,5,6,7,8] [((1,0),1),((2,0),2),((3,0),3),((4,0),4),((5,0),5),((94,0),6)] (by simp [go_sem,hts])) (by omega) (by omega)⟩
 ·have hk':k=(zcn r.parts v.parts w.parts).length:=by omega
  have hpl:r.times v w=.mk gr0 0 false 0 [] (zcn r.parts v.parts w.parts):=by simp [GRing.times,h6]
  rw [hpl];subst hk';simp [go_sem]
end Go.Ab
namespace Go.Ab
open Enc (enc)
def mD (n:Nat):Nat:=6^n
def mB (n:Nat):Nat:=6291456^n
def qm (n:Nat) (q:Rat):Prop:=qb (mD n) (mB n) q
structure GW.mb1 (n:Nat) (w:GW):Prop where
 q:qm n w.q.v
 p:∀ e,qm n (pc w.poly e)
structure GW.mb (n:Nat) (w:GW):Prop where
 o:w.mb1 n
 ps:∀ x∈w.parts,x.mb1 n
theorem zn3 {p q:Rat} (h0:0<=p) (h1:p<=1) (k0:0<=q) (k1:q<=1):p*q<=1:=by have h2:p*q<=p*1:=ypd k1 h0;rw [Rat.mul_one] at h2;exact Rat.le_trans h2 h1
theorem zba {k:Int} (hk:1<=k/\k<=5) {v w:GW} (hv:v.si k) (hw:w.si k):(zao k v w).si k:=by
 have:k=1\/k=2\/k=3\/k=4\/k=5:=by omega
 rcases this with rfl|rfl|rfl|rfl|rfl
 ·rw [si1]; exact ⟨rfl,rfl,rfl,rfl,rfl,zby _⟩
 ·obtain ⟨h1,h2,h3,h4,h5,h6,h7⟩:=si2.1 hv;obtain ⟨k1,k2,k3,k4,k5,k6,k7⟩:=si2.1 hw;unfold zao;rw [yj8 (by omega),yj9 rfl];split
  ·rw [si2]; exact ⟨rfl,rfl,rfl,rfl,Int.le_refl 0,by show (0:Int)<=1099511627776; omega,fun _=>rfl⟩
  ·rename_i h;rw [si2]; exact ⟨rfl,rfl,rfl,rfl,by show 0<=v.cost+w.cost; omega,by show v.cost+w.cost<=1099511627776; omega,fun h=>by cases h⟩
 ·obtain ⟨h1,h2,h3,h4,h5,h6,h7,h8⟩:=si3.1 hv;obtain ⟨k1,k2,k3,k4,k5,k6,k7,k8⟩:=si3.1 hw;rw [si3];refine ⟨rfl,rfl,rfl,rfl,rfl,zby _,?_,?_⟩
  ·show 0<=(rto (v.q.v*w.q.v)).v;rw [zbv]; exact Rat.mul_nonneg h7 k7
  ·show (rto (v.q.v*w.q.v)).v<=1;rw [zbv]; exact zn3 h7 h8 k7 k8
 ·rw [si4]; exact ⟨rfl,rfl,rfl,rfl,rfl⟩
 ·rw [si5]; exact ⟨rfl,rfl,rfl,rfl,rfl,zb8 _ _⟩
theorem za7 {r:GRing} {v w:GW} (hv:v.chk r) (hw:w.chk r):(r.times v w).chk r:=by
 by_cases h6:r.kind=6
 ·have hp:=GRing.ok_parts hv.1 h6;have lv:=(hv.2.2 h6).1;have lw:=(hw.2.2 h6).1;refine ⟨hv.1,fun h=>absurd h6 h,fun _=>?_⟩;have e:r.times v w=.mk gr0 0 false 0 [] (zcn r.parts v.parts w.parts):=by simp [GRing.times,h6]
  rw [e];refine ⟨zaz lv lw,rfl,fun i h h'=>?_⟩;simp only [GW.parts_mk] at h' ⊢;rw [za8 h (by omega) (by omega) h'];exact zba (hp.2.2 _ (yk2 h)) ((hv.2.2 h6).2.2 i h (by omega)) ((hw.2.2 h6).2.2 i h (by omega))
 ·have hk:=GRing.ok_kind hv.1 h6;have e:r.times v w=zao r.kind v w:=by simp [GRing.times,h6]
  rw [e];exact ⟨hv.1,fun _=>zba ⟨hk.1,hk.2.1⟩ (hv.2.1 h6) (hw.2.1 h6),fun h=>absurd h h6⟩
end Go.Ab
