/-
Proofs for the law TransducerWeighsMadeModels, part 35. Conditions: none.
-/
import Derived.Test.YtbhboeijjgiflaaGreatDoorCP32
import Derived.Test.YtbhboeijjgiflaaGreatDoorCP12
import Derived.Test.YtbhboeijjgiflaaGreatDoorCP23
import Derived.Test.YtbhboeijjgiflaaGreatDoorCP28
import Derived.Test.YtbhboeijjgiflaaGreatDoorCP33
import Derived.Test.YtbhboeijjgiflaaGreatDoorCP34
import Derived.Test.YtbhboeijjgiflaaGreatDoorCP31
import Derived.Test.YtbhboeijjgiflaaGreatDoorCP25
import Derived.Test.YtbhboeijjgiflaaGreatDoorCP29
import Derived.Test.YtbhboeijjgiflaaGreatDoorCP30
set_option maxRecDepth 100000
set_option maxHeartbeats 4000000
set_option linter.all false
namespace Go.Ab
open Enc (enc)
theorem yjn:yaf P F.dr 6:=sortK0
theorem yj5(m n:GMono):Sp P F.bw [enc m,enc n] (.pure (.int .i64 (n.e.cmp m.e))):=by refine Sp.vz c.bw fun _=>?_;simp[g.bw,go_sem];refine zaa (ztf m.e n.e) rfl ?_;simp[go_sem]
theorem z85:SpM P F.na [.sl [],.int .i64 0,.int .i64 0,.fn F.bw []] 0 6 [] (.pure (.tup [])):=by refine SpM.of_vm c.na (by simp) rfl rfl ?_;simp[g.na,go_sem];refine ziq fun R hn hr hx=>?_;simp[g.tf,g.tg,go_sem];refine hx _ _ ?_;simp[go_sem]
theorem z8h(k:Int):SpM P F.jl [.sl [],.int .i64 0,.int .i64 0,.int .i64 k,.fn F.bw []] 0 6 [] (.pure (.tup [])):=by refine SpM.of_vm c.jl (by simp) rfl rfl ?_;simp[g.jl,go_sem];refine ziq fun R hn hr hx=>?_;simp[g.te,go_sem];refine zgg z85 (by simp[go_sem]) rfl rfl (by simp) rfl rfl rfl rfl rfl (by simp[go_sem]) ?_;simp[go_sem];exact hr _ (by simp[go_sem])
theorem Ex.cmp_lex(x y:Ex):x.cmp y<0 ↔ x.a<y.a\/(x.a=y.a/\(x.b<y.b\/(x.b=y.b/\x.c<y.c))):=by
 unfold Ex.cmp
 repeat' split
 all_goals omega
def sD(x:PV):Prop:=∃ m:GMono,x=enc m
def sX:PV->Ex
 | .agg (.int _ a::.int _ b::.int _ c::_)=>⟨a,b,c⟩
 | _=>⟨0,0,0⟩
theorem yfj(m:GMono):sX (enc m)=m.e:=rfl
theorem Ex.ext'{x y:Ex}(h1:¬ x.cmp y<0)(h2:¬ y.cmp x<0):x=y:=by rw[Ex.cmp_lex]at h1 h2;cases x;cases y;simp only[Ex.mk.injEq]at *;omega
theorem z7j(l l':List GMono)(hl:l.length<=1073741824)(hk:(l.map (·.e)).Nodup)(hp:l'.Perm l)(hs:l'.Pairwise fun x y=>y.e.cmp x.e<0):SpM P F.dr [.sl (ens l),.fn F.bw []] 0 6 (ens l') (.pure (.tup [])):=by
 have hfn:=zk2 c.dr;have hgn:=zk2 c.bw;cases l with
 | nil =>
  have:l'=[]:=List.Perm.eq_nil hp;subst this;refine SpM.of_vm c.dr (by simp) rfl rfl ?_;simp[g.dr,go_sem];refine zaa ycy rfl ?_;simp[go_sem];refine zgg (z8h 0) (by simp[go_sem]) rfl rfl (by simp) rfl rfl rfl rfl rfl (by simp[go_sem]) ?_;simp[go_sem]
 | cons m l =>
  have hnd:∀ x y:GMono,x∈m::l->y∈m::l->x.e=y.e->x=y:=fun x y hx hy he=>by obtain⟨i,hi⟩:=List.getElem?_of_mem hx;obtain⟨j,hj⟩:=List.getElem?_of_mem hy;obtain⟨i1,i2⟩:=List.getElem?_eq_some_iff.1 hi;obtain⟨j1,j2⟩:=List.getElem?_eq_some_iff.1 hj;have:i=j:=(List.getElem_inj (h₀ := by simpa using i1) (h₁ := by simpa using j1) hk).1 (by simp only[List.getElem_map,i2,j2,he]);subst this;rw[<- i2,<- j2]
  refine yjn.spM hfn (by decide) (D:=sD) (c:=fun x y=>(sX y).cmp (sX x)) hgn ?_ ?_ ?_ ?_ (by simp[ens]) (by simp only[zqd];omega) ?_ ?_ ?_
  ·rintro _ _ ⟨x,rfl⟩ ⟨y,rfl⟩;exact yj5 x y
  ·rintro _ ⟨x,rfl⟩;rw[Ex.cmp_lex];omega
  ·rintro _ _ _ ⟨x,rfl⟩ ⟨y,rfl⟩ ⟨z,rfl⟩ h1 h2;simp only[Ex.cmp_lex]at *;omega
  ·rintro _ _ _ ⟨x,rfl⟩ ⟨y,rfl⟩ ⟨z,rfl⟩ h1 h2;simp only[Ex.cmp_lex]at *;omega
  ·intro e he;obtain⟨x,_,rfl⟩:=yl6.1 he;exact⟨x,rfl⟩
  ·intro e he;exact z1y _ e he
  ·intro l0 h0 hs0;have hpe:(ens l').Perm (ens (m::l)):=hp.map _;refine List.Perm.eq_of_pairwise (le:=fun x y=>¬ (sX x).cmp (sX y)<0) (fun a b ha hb h1 h2=>?_) hs0 ?_ (h0.trans hpe.symm)
   ·obtain⟨x,hx,rfl⟩:=yl6.1 (h0.mem_iff.1 ha);obtain⟨y,hy,rfl⟩:=yl6.1 (hpe.mem_iff.1 hb);have:=hnd x y hx hy (Ex.ext' h1 h2);rw[this]
   ·rw[ens,yqx];refine hs.imp fun {x y} h=>?_;simp only[yfj,Ex.cmp_lex]at *
    omega
def nzm(p:Ex × GRat):Option GMono:=if p.2.v≠0 then some ⟨p.1,p.2⟩else none
def nz(L:List (Ex × GRat)):List GMono:=L.filterMap nzm
def nzAt(L:List (Ex × GRat))(j:Nat):Option GMono:=L[j]?.bind nzm
theorem zhw{α β : Type}(f : α -> Option β):∀ (L:List α),(List.range L.length).filterMap (fun j=>L[j]?.bind f)=L.filterMap f
 | []=>rfl
 | x::L=>by
  rw[yn6,List.range_succ_eq_map,ypw];have h:(List.map Nat.succ (List.range L.length)).filterMap (fun j=>(x::L)[j]?.bind f)=L.filterMap f:=by rw[List.filterMap_map,<- zhw f L];rfl
  simp only[List.getElem?_cons_zero,Option.bind_some,h,ypw]
theorem z8m(L:List (Ex × GRat)):(List.range L.length).filterMap (nzAt L)=nz L:=zhw nzm L
theorem zqb{j:Nat}{Lf:List Nat}(hj:j∈Lf):∀ {R:List Nat},R.Nodup->(R.filter fun i=>i∉Lf.filter fun i => !decide (i=j)).Perm ((if j∈R then[j]else[])++R.filter fun i=>i∉Lf)
 | [],_=>by simp
 | x::R,h=>by
  obtain⟨h1,h2⟩:=yn2.1 h;have ih:=zqb hj h2;by_cases hx:x=j
  ·subst hx;have e1:decide (x∉Lf.filter fun i => !decide (i=x))=true:=by simp
   have e2:decide (x∉Lf)=false:=by simp[hj]
   rw[yl1 h1]at ih;simp only[ypx,e1,e2,ylz,yl9,yl7,true_or,yl2,List.singleton_append,yno]at ih ⊢;exact ih.cons x
  ·have hm:(j∈x::R) ↔ j∈R:=by simp[ymc hx]
   simp only[hm];by_cases hf:x∈Lf
   ·have e1:decide (x∉Lf.filter fun i => !decide (i=j))=false:=by simp[hf,hx]
    have e2:decide (x∉Lf)=false:=by simp[hf]
    simp only[ypx,e1,e2,ylz,yl9];exact ih
   ·have e1:decide (x∉Lf.filter fun i => !decide (i=j))=true:=by simp[hf]
    have e2:decide (x∉Lf)=true:=by simp[hf]
    simp only[ypx,e1,e2,yl2];exact(ih.cons x).trans List.perm_middle.symm
theorem ycr{L:List (Ex × GRat)}{Lf:List Nat}{j:Nat}(hj:j∈Lf)(hl:j<L.length){acc:List GMono}(h:acc.Perm (((List.range L.length).filter fun i=>i∉Lf).filterMap (nzAt L))) :
  (match nzAt L j with|some m=>acc++[m]|none=>acc).Perm (((List.range L.length).filter fun i=>i∉Lf.filter fun i => !decide (i=j)).filterMap (nzAt L)):=by
 have h1:=(zqb hj (R:=List.range L.length) ypn).filterMap (nzAt L);rw[yl0 (ymh.2 hl),List.singleton_append,ypw]at h1;refine List.Perm.trans ?_ h1.symm;cases nzAt L j with
 | none=>exact h
 | some m=>exact(List.perm_append_comm (l₁ := acc) (l₂ := [m])).trans (h.cons m)
theorem zrc{L:List (Ex × GRat)}(h:(L.map (·.1)).Nodup):((nz L).map (·.e)).Nodup:=by
 have hsub:∀ L:List (Ex × GRat),((nz L).map (·.e)).Sublist (L.map (·.1)):=by
  intro L
  induction L with
  | nil=>exact List.Sublist.refl _
  | cons p L ih =>
   simp only[nz,ypw,nzm]at ih ⊢;split
   ·rename_i hn;exact ih.cons _
   ·rename_i m hm;split at hm
    ·cases hm;exact ih.cons_cons _
    ·cases hm
 exact(hsub L).nodup h
def lsS(r':Nat)(acc:List GMono):St:=mkSt [(3,.own 1 0 0 acc.length),(7,.p (.itv r'))] [(1,⟨6,avs acc⟩)]
def lsI(r' r:Nat)(L:List (Ex × GRat))(n:Nat)(s:St)(B:Option FA):Prop:=∃ acc Lf cur,Weak s (lsS r' acc)/\B=some (itFA r' r (mks L) (mvs L) Lf cur)/\Lf.length=n/\acc.length+Lf.length<=L.length/\acc.Perm (((List.range L.length).filter fun i=>i∉Lf).filterMap (nzAt L))
def lsE(r':Nat)(L:List (Ex × GRat))(ex:Exit)(s:St):Prop:=ex=.exit 0/\∃ acc,Weak s (lsS r' acc)/\acc.Perm (nz L)/\acc.length<=L.length
theorem zpb(r:Nat)(L:List (Ex × GRat))(hL:∀ p∈L,p.2.sm 4194304)(hkn:(L.map (·.1)).Nodup)(hlen:L.length<=1000000)(l':List GMono)(hp:l'.Perm (nz L))(hs:l'.Pairwise fun x y=>y.e.cmp x.e<0) :
  Sp P F.fk [.mp r (mks L) (mvs L)] (.fresh 6 (ens l')):=by
 refine Sp.of_mr c.fk (by simp) ?_;unfold g.fk;generalize hP:(fun ex s (_:Option FA)=>retP [(2,none)] (RV.fresh 6 (ens l')) ex s)=Post;refine MR.gseq ?_;simp[go_sem];refine MR.gseq ?_;simp[go_sem];refine MR.gseq' (MR.gseq' (MR.greg (zl9 1 [[0],[6]] ?_)));simp[go_sem];refine MIns.cons (z38 ty.map (by rfl) fun r'=>?_);refine zff [] ?_;simp[go_sem];refine MR.gblk (MR.mono (MR.gloop (Post:=fun ex s B=>lsE r' L ex s) (I:=lsI r' r L) L.length ?_ ?_) ?_)
 ·refine⟨[],List.range L.length,none,?_,by simp[mks],by simp,by simp,?_⟩
  ·exact Weak.nl 3 1 6 rfl (Weak.to [3,7] [((1,0),1)] (by simp[lsS,mkSt,go_sem]))
  ·have:(List.range L.length).filter (fun i=>i∉List.range L.length)=[]:=by rw[List.filter_eq_nil_iff];intro a ha;simp at ha ⊢;exact ha
   rw[this];exact List.Perm.refl _
 ·rintro n s B ⟨acc,Lf,cur,hw,rfl,hn,hac,hperm⟩;refine MR.weak hw ?_;unfold g.so;refine MR.gseq' (MR.greg (MIns.cons (z8s rfl (fun h0=>?_) (fun j hj kv vv hkv hvv=>?_))))
  ·refine zff [[8]] ?_;simp[go_sem];refine MR.gseq' (MR.gcond (t:=false) rfl (fun h=>by cases h) (fun _=>MR.gext ⟨fun h=>(by cases h),fun _=>⟨fun h=>(by cases h),fun _=>⟨rfl,acc,?_,?_,by omega⟩⟩⟩))
   ·exact Weak.to [3,7] [((1,0),1)] (by simp[lsS,mkSt,go_sem])
   ·subst h0;have e:(List.range L.length).filter (fun i=>decide (i∉([]:List Nat)))=List.range L.length:=List.filter_eq_self.2 (by simp);rw[e,z8m]at hperm;exact hperm
  ·obtain⟨p,hpj,rfl,rfl⟩:∃ p:Ex × GRat,L[j]?=some p/\kv=enc p.1/\vv=enc p.2:=by simp only[mks,yme,yng]at hkv;obtain⟨p,h1,rfl⟩:=hkv;simp only[mvs,yme,h1,yp0,yl3]at hvv;exact⟨p,h1,rfl,hvv.symm⟩
   have hjl:=(ynk.1 hpj).1;refine zff [[8]] ?_;simp[go_sem];refine MR.gseq' (MR.gcond (t:=true) rfl (fun _=>MR.gnop ⟨fun _=>?_,fun h=>absurd rfl h⟩) (fun h=>by cases h));refine MR.gblk (MR.gseq' (MR.greg (MIns.cons (z4a rfl hkv hvv ?_))));refine zff [[],[10],[],[],[11],[12]] ?_;simp[lsS,mkSt,go_sem];refine MR.of_vm ?_;simp[go_sem];refine zaa (zl2 p.2 (hL p (yny hpj))) rfl ?_;have hstep:=ycr hj hjl hperm;have hlt:(Lf.filter fun i => !decide (i=j)).length<Lf.length:=by refine Nat.lt_of_le_of_ne (yni _ _) fun h=>?_;have:=(List.length_filter_eq_length_iff.1 h) j hj;simp at this
   by_cases hz:p.2.v=0
   ·have hsg:sgnR p.2.v=0:=(zf0 _).2 hz;simp[go_sem,hsg];have hnz:nzAt L j=none:=by simp[nzAt,hpj,nzm,hz]
    rw[hnz]at hstep;exact⟨fun _=>⟨_,by rw[<- hn];exact hlt,acc,_,_,Weak.to [3,7] [((1,0),1)] (by simp[lsS,mkSt,go_sem]),rfl,rfl,by omega,hstep⟩,fun h=>absurd rfl h⟩
   ·have hsg:sgnR p.2.v≠0:=fun h=>hz ((zf0 _).1 h);simp[go_sem,hsg];have hnz:nzAt L j=some ⟨p.1,p.2⟩:=by simp[nzAt,hpj,nzm,hz]
    rw[hnz]at hstep;exact⟨by omega,fun _=>⟨_,by rw[<- hn];exact hlt,acc++[⟨p.1,p.2⟩],_,_,Weak.to [3,7] [((21,0),1)] (by simp[lsS,mkSt,go_sem]),rfl,rfl,by simp;omega,hstep⟩,fun h=>absurd rfl h⟩
 ·rintro ex s B ⟨rfl,acc,hw,hperm,hac⟩;refine⟨fun _=>?_,fun h=>absurd rfl h⟩;refine MR.weak hw (MR.of_vm ?_);simp[lsS,mkSt,go_sem];subst hP;have hkn':(acc.map (·.e)).Nodup:=(hperm.map _).nodup_iff.2 (zrc hkn);have hll:l'.length=acc.length:=(hp.trans hperm.symm).length_eq;refine zgg (z7j acc l' (by omega) hkn' (hp.trans hperm.symm) hs) (by simp[go_sem]) rfl rfl (by simp) (by simp[go_sem]) (by simp[go_sem,hll]) rfl (zej _ _ rfl) (cells_one (fun _=>rfl) _) (by simp[go_sem]) ?_;simp[go_sem,hll]
theorem zR_v:zR.v=0:=zg9
structure MInv (ms:List GMono) (L:List (Ex × GRat)):Prop where
 tot:∀ e,(ziw e L).v=pc ms e
 val:∀ e c,mget e L=some c->c=rto (pc ms e)/\∃ m∈ms,m.e=e
 nod:(L.map (·.1)).Nodup
 len:L.length<=ms.length
theorem zx9{κ α : Type}[DecidableEq κ](e : κ)(c : α):∀ L:List (κ × α),(mset e c L).length<=L.length+1
 | []=>by simp[mset]
 | (e',c')::L=>by have:=zx9 e c L;simp only[mset];split<;>simp<;>omega
theorem znk{κ α : Type}[DecidableEq κ]{e : κ}{c : α}:∀ {L:List (κ × α)},(L.map (·.1)).Nodup->(e,c)∈L->mget e L=some c
 | (e',c')::L,hn,h=>by
  obtain⟨h1,h2⟩:=yn2.1 hn;simp only[mget];rcases yl7.1 h with h|h
  ·cases h;simp
  ·have:e'≠e:=by rintro rfl;exact h1 (yl6.2 ⟨_,h,rfl⟩)
   rw[yl1 this];exact znk h2 h
theorem MInv.step{ms:List GMono}{L:List (Ex × GRat)}(h:MInv ms L)(m:GMono):MInv (ms++[m]) (madd m L):=by
 have hpc:∀ e,pc (ms++[m]) e=pc ms e+if m.e=e then m.coef.v else 0:=fun e=>by rw[zf3];simp[pc,ym6]
 refine⟨fun e=>?_,fun e c hc=>?_,z0b _ _ h.nod,?_⟩
 ·rw[hpc];simp only[ziw,madd,znl];split
  ·rename_i he;subst he;simp only[yon,zbf];have:=h.tot m.e;simp only[ziw]at this;rw[this]
  ·rw[ym6];exact h.tot e
 ·simp only[madd,znl]at hc;rw[hpc];split at hc
  ·rename_i he;subst he;cases hc;exact⟨by rw[h.tot,yl0 rfl],m,by simp,rfl⟩
  ·rename_i he;obtain⟨q1,x,q2,q3⟩:=h.val e c hc;exact⟨by rw[yl1 he,ym6];exact q1,x,by simp[q2],q3⟩
 ·have:=zx9 m.e (rto ((ziw m.e L).v+m.coef.v)) L;have:=h.len;simp only[madd,yo4,List.length_singleton];omega
def zf8(ms:List GMono)(L:List (Ex × GRat)):List (Ex × GRat):=ms.foldl (fun L m=>madd m L) L
theorem MInv.fold:∀ (ms':List GMono) {ms:List GMono} {L:List (Ex × GRat)},MInv ms L->MInv (ms++ms') (zf8 ms' L)
 | [],ms,L,h=>by simpa[zf8]using h
 | m::ms',ms,L,h=>by have:=MInv.fold ms' (h.step m);simpa[zf8]using this
theorem MInv.nil:MInv [] []:=⟨fun e=>zR_v,fun e c h=>(by cases h),by simp,by simp⟩
theorem minv(ms:List GMono):MInv ms (zf8 ms []):=by simpa using MInv.fold ms MInv.nil
theorem MInv.mem{ms:List GMono}{L:List (Ex × GRat)}(h:MInv ms L){p:Ex × GRat}(hp:p∈L):p.2=rto (pc ms p.1)/\∃ m∈ms,m.e=p.1:=h.val p.1 p.2 (znk h.nod hp)
theorem z3n{p q:List GMono}(h:p.Perm q)(e:Ex):pc p e=pc q e:=by
 induction h with
 | nil=>rfl
 | cons x _ ih=>simp only[pc,ih]
 | swap x y l=>simp only[pc];rw[<- Rat.add_assoc,<- Rat.add_assoc,ynm (if y.e=e then y.coef.v else 0)]
 | trans _ _ ih1 ih2=>rw[ih1,ih2]
theorem zv1{L:List (Ex × GRat)}{m:GMono}(h:m∈nz L):(m.e,m.coef)∈L/\m.coef.v≠0:=by
 obtain⟨p,hp,h⟩:=List.mem_filterMap.1 h;unfold nzm at h;split at h
 ·rename_i hz;cases h;exact⟨hp,hz⟩
 ·cases h
theorem ycj:∀ {L:List (Ex × GRat)} (e:Ex),(L.map (·.1)).Nodup->pc (nz L) e=(ziw e L).v
 | [],e,_=>by simp[nz,pc,ziw,mget,zR_v]
 | (e1,c1)::L,e,h=>by
  obtain⟨h1,h2⟩:=yn2.1 h;have ih:=ycj (L:=L) e h2;have hcons:nz ((e1,c1)::L)=if c1.v≠0 then⟨e1,c1⟩::nz L else nz L:=by simp only[nz,ypw,nzm];split<;>split<;>simp_all
  rw[hcons];simp only[ziw,mget];by_cases he:e1=e
  ·subst he;have hz:pc (nz L) e1=0:=zit fun m hm hme=>h1 (yl6.2 ⟨_,(zv1 hm).1,hme⟩);split
   ·simp[pc,hz,ym6]
   ·rename_i hc;simp at hc;simp[hz,hc]
  ·simp only[yl1 he];simp only[ziw]at ih;split
   ·simp[pc,he,ih,yo1]
   ·exact ih
theorem z3o{p q:List GMono}(hp:PVal p)(hq:PVal q){L:List (Ex × GRat)}(h:MInv (p++q) L):(padd p q).Perm (nz L):=by
 have hok:∀ m∈p++q,m.ok=true:=fun m hm=>by
  rcases ylp.1 hm with h|h
  ·exact(zak.1 hp).1 m h
  ·exact(zak.1 hq).1 m h
 have hnok:∀ m∈nz L,m.ok=true:=fun m hm=>by obtain⟨h1,h2⟩:=zv1 hm;obtain⟨h3,x,h4,h5⟩:=h.mem h1;simp only at h3 h5;refine GMono.ok_iff.2 ⟨?_,by rw[h3];exact zbc _,h2⟩;rw[<- h5];exact(GMono.ok_iff.1 (hok x h4)).1
 let le:GMono->GMono->Bool:=fun a b=>decide (b.e.code<=a.e.code)
 have hperm:((nz L).mergeSort le).Perm (nz L):=List.mergeSort_perm _ _;have hsort:((nz L).mergeSort le).Pairwise fun a b=>le a b=true:=List.pairwise_mergeSort (fun a b c h1 h2=>by simp only[le,decide_eq_true_eq]at *;omega) (fun a b=>by simp only[le,ypa,decide_eq_true_eq];omega) _;have hnd:(((nz L).mergeSort le).map (·.e)).Nodup:=(hperm.map _).nodup_iff.2 (zrc h.nod);have hval:PVal ((nz L).mergeSort le):=by
  refine zak.2 ⟨fun m hm=>hnok m (hperm.mem_iff.1 hm),?_⟩;have h2:((nz L).mergeSort le).Pairwise fun a b=>a.e≠b.e:=List.pairwise_map.1 hnd;refine(hsort.and h2).imp_of_mem fun {a b} ha hb hab=>?_;have oa:=(GMono.ok_iff.1 (hnok a (hperm.mem_iff.1 ha))).1;have ob:=(GMono.ok_iff.1 (hnok b (hperm.mem_iff.1 hb))).1;have h3:b.e.code<=a.e.code:=by simpa[le]using hab.1
  have h4:b.e.code≠a.e.code:=fun he=>hab.2 ((Ex.code_inj ob oa).1 he).symm;omega
 have:padd p q=(nz L).mergeSort le:=by refine zh9 (zcc q hp) hval fun e=>?_;rw[zfr p (zak.1 hq).1,z3n hperm,ycj e h.nod,h.tot,zf3]
 rw[this];exact hperm
theorem zvw{p q:List GMono}(hp:PVal p):(padd p q).Pairwise fun x y=>y.e.cmp x.e<0:=by have hv:=zak.1 (zcc q hp);refine hv.2.imp_of_mem fun {a b} ha hb h=>?_;exact(Ex.cmp_neg (GMono.ok_iff.1 (hv.1 b hb)).1 (GMono.ok_iff.1 (hv.1 a ha)).1).2 h
theorem MInv.sm{p q:List GMono}{n:Nat}(hp:PVal p)(hq:PVal q)(sp:psm p n)(sq:psm q n)(hn:1<=n){L:List (Ex × GRat)}(h:MInv (p++q) L):∀ x∈L,x.1.ok=true/\x.2.sm (n+n+1):=by
 intro x hx;obtain⟨h1,m,h2,h3⟩:=h.mem hx;refine⟨?_,?_⟩
 ·rw[<- h3];rcases ylp.1 h2 with h|h
  ·exact(GMono.ok_iff.1 ((zak.1 hp).1 m h)).1
  ·exact(GMono.ok_iff.1 ((zak.1 hq).1 m h)).1
 ·have ga:∀ {p:List GMono},PVal p->psm p n->∃ a:GRat,a.sm n/\a.v=pc p x.1:=fun {p} hv sp=>by
   rcases zjo hv x.1 with h|⟨y,hy,h⟩
   ·exact⟨gr0,zg6 n,by rw[zg9,h]⟩
   ·exact⟨y.coef,sp y hy,h.symm⟩
  obtain⟨a,a1,a2⟩:=ga hp sp;obtain⟨b,b1,b2⟩:=ga hq sq;rw[h1,zf3,<- a2,<- b2];exact zkj a1 b1 hn hn
def paS(r:Nat)(ms:List GMono)(k:Nat):St:=mkSt [(5,.p (.mapv r)),(14,.own 1 0 0 ms.length),(15,.p (.int .i64 ms.length)),(16,.p (.int .i64 k))] [(1,⟨6,avs ms⟩)]
def paB(r:Nat)(ms:List GMono):Option FA:=some (zil r (mks (zf8 ms [])) (mvs (zf8 ms [])))
def paI(r:Nat)(ms:List GMono)(n:Nat)(s:St)(B:Option FA):Prop:=∃ k,k<=ms.length/\n=ms.length - k/\Weak s (paS r ms k)/\B=paB r (ms.take k)
def paE(r:Nat)(ms:List GMono)(ex:Exit)(s:St)(B:Option FA):Prop:=ex=.exit 0/\Weak s (paS r ms ms.length)/\B=paB r ms
theorem z0e(ms:List GMono)(m:GMono):zf8 (ms++[m]) []=madd m (zf8 ms []):=by simp[zf8]
def paR:GC:=.seq (.reg [⟨some 27,.mv (.t 5),none⟩,⟨some 28,.call F.fk [.t 27],none⟩,⟨some 4,.mv (.t 28),none⟩] [[5,14,15,16],[27],[28]])
 (.ret)
theorem z3p(r:Nat)(p q:List GMono)(n:Nat)(vp:PVal p)(vq:PVal q)(sp:psm p n)(sq:psm q n)(hn1:1<=n)(hn:n<=400000)(lp:p.length<=100000)(lq:q.length<=100000){s:St}(hw:Weak s (paS r (p++q) 0)) :
  MR P 29 (GC.blk 0 (.loop g.o8)).er s (paB r []) fun ex s B=>(ex=.normal->MR P 29 paR.er s B fun ex s _=>retP [(4,none)] (RV.pure (.sl (ens (padd p q)))) ex s)/\(ex ≠ .normal->retP [(4,none)] (RV.pure (.sl (ens (padd p q)))) ex s):=by
 have hlen:(p++q).length<=200000:=by simp;omega
 have hokm:∀ m∈p++q,m.e.ok=true/\m.coef.sm n:=fun m hm=>by
  rcases ylp.1 hm with h|h
  ·exact⟨(GMono.ok_iff.1 ((zak.1 vp).1 m h)).1,sp m h⟩
  ·exact⟨(GMono.ok_iff.1 ((zak.1 vq).1 m h)).1,sq m h⟩
 have hinv:∀ k,∀ x∈zf8 ((p++q).take k) [],x.1.ok=true/\x.2.sm 1048576:=fun k x hx=>by have h:=minv ((p++q).take k);have e:(p++q).take k=p.take k++q.take (k - p.length):=List.take_append;rw[e]at h hx;obtain⟨h1,h2⟩:=h.sm (vp.take k) (vq.take _) (fun m hm=>sp m (ym3 hm)) (fun m hm=>sq m (ym3 hm)) hn1 x hx;exact⟨h1,h2.mono (by omega)⟩
 have hfin:=minv (p++q);have hsm:=hinv (p++q).length;rw[ym4]at hsm;have hperm:=z3o vp vq hfin;have hsort:=zvw (p:=p) (q:=q) vp;generalize hms:p++q=ms at *
 refine MR.gblk (MR.mono (MR.gloop (Post:=paE r ms) (I:=paI r ms) ms.length ⟨0,by omega,by omega,hw,rfl⟩ ?_) ?_)
 ·rintro n0 s B ⟨k,hk,rfl,hw,rfl⟩;refine MR.weak hw ?_;unfold g.o8;refine MR.gseq ?_;simp[paS,mkSt,go_sem];by_cases hlt:k<ms.length
  ·refine MR.gseq' (MR.gcond (t:=true) (by simp[go_sem,hlt]) (fun _=>MR.gnop ⟨fun _=>?_,fun h=>absurd rfl h⟩) (fun h=>by cases h));simp[go_sem];refine MR.gseq' (MR.gblk (MR.gseq ?_));simp[go_sem];refine⟨hlt,zae hlt ?_⟩;have hmk:=hokm ms[k] (yl4 hlt);refine MR.greg (zl9 5 [[],[],[21],[7],[23]] ?_);simp[go_sem];refine MIns.cons (zts (args:=[enc ms[k].e,enc ms[k].coef]) (zsy ms[k] _ hmk.1 (hmk.2.mono (by omega)) (hinv k)) (by simp[go_sem]) (zre _) (zrd _) ?_);refine zff [[20,22,24,25]] ?_;simp[go_sem];refine⟨fun _=>MR.of_vm ?_,fun h=>absurd rfl h⟩;have e3:=i64s k (by omega);simp[go_sem,e3];refine⟨_,?_,k+1,by omega,rfl,Weak.to [5,14,15,16] [((1,0),1)] (by simp[paS,mkSt,go_sem]),?_⟩
   ·omega
   ·simp only[paB];rw[yls hlt,z0e]
  ·have hk':k=ms.length:=by omega
   refine MR.gseq' (MR.gcond (t:=false) (by simp[go_sem,hlt]) (fun h=>by cases h) (fun _=>MR.gext ⟨fun h=>(by cases h),fun _=>⟨fun h=>(by cases h),fun _=>⟨rfl,?_,?_⟩⟩⟩))
   ·exact Weak.to [5,14,15,16] [((1,0),1)] (by simp[paS,mkSt,go_sem,hk'])
   ·rw[hk',ym4]
 ·rintro ex s B ⟨rfl,hw,rfl⟩;refine⟨fun _=>?_,fun h=>absurd rfl h⟩;refine MR.weak hw (MR.freeze (t:=5) rfl ?_);refine MR.of_vm ?_;simp[paR,paS,mkSt,go_sem];have hpl:=zq6 p q;refine zcw (zpb r (zf8 ms []) (fun x hx=>(hsm x hx).2.mono (by omega)) hfin.nod (by have:=hfin.len;omega) (padd p q) hperm hsort) (by simp[go_sem]) ⟨zej _ _ rfl,by decide,by simp[ens,LIM];omega⟩ _ rfl ?_;simp[go_sem,killAll]
theorem zz2(p q:List GMono)(n:Nat)(sp:psm p n)(sq:psm q n)(hn1:1<=n)(hn:n<=400000)(lp:p.length<=100000)(lq:q.length<=100000) :
  Sp P F.l9 [.sl (ens p),.sl (ens q)] (.pure (.sl (ens (padd (pv p) (pv q))))):=by
 refine Sp.of_mr c.l9 (by simp) ?_;unfold g.l9;generalize hP:(fun ex s (_:Option FA)=>retP [(4,none)] (RV.pure (.sl (ens (padd (pv p) (pv q))))) ex s)=Post;have vp:=yao p;have vq:=yao q;have s1:=yap sp;have s2:=yap sq;have l1:=yaq p;have l2:=yaq q;refine MR.gseq ?_;simp[go_sem];refine MR.gseq' (MR.greg (MIns.cons (znj fun r=>?_)));refine zff [[8]] ?_;simp[go_sem];refine MR.gseq' (MR.gseq ?_);simp[go_sem];refine zaa (zjm p (sp.mono (by omega)) (by omega)) rfl ?_;simp[go_sem];refine zaa (zjm q (sq.mono (by omega)) (by omega)) rfl ?_;simp[go_sem];refine zcw (z5y (pv p) (pv q) (by omega)) (by simp[go_sem]) ⟨zej _ _ rfl,by decide,by simp[ens,LIM];omega⟩ _ rfl ?_;cases hfl:(ens (pv p++pv q)).all PV.flat
 ·simp[go_sem,killAll];subst hP;refine z3p r (pv p) (pv q) n vp vq s1 s2 hn1 hn (by omega) (by omega) ?_;exact Weak.to [5,14,15,16] [((14,0),1)] (by simp[paS,mkSt,go_sem])
 ·simp[go_sem];subst hP;refine z3p r (pv p) (pv q) n vp vq s1 s2 hn1 hn (by omega) (by omega) ?_;exact Weak.to [5,14,15,16] [((14,0),1)] (by simp[paS,mkSt,go_sem])
end Go.Ab
namespace Go.Ab
open Enc (enc)
attribute [local go_sem] zal Opd.slots
theorem GRat.sm.monoR{x:GRat}{m n:Nat}(h:x.sm m)(k:m<=n):x.sm n:=⟨ylq h.1 k,ylq h.2 k⟩
theorem psm.monoR{p:List GMono}{m n:Nat}(h:psm p m)(k:m<=n):psm p n:=fun x hx=>(h x hx).monoR k
theorem GW.sm.mono{m n:Nat}(k:m<=n):∀ w:GW,w.sm m->w.sm n:=by
 refine GW.sm.ind fun v hv ih=>?_;cases v with
 | mk q c i s p ps=>exact .mk (hv.q.monoR k) (hv.poly.monoR k) (ylq hv.len k) (ylq hv.plen k) ih
theorem GW.sm.one(k:Int){n:Nat}{q:GRat}{c:Int}{i:Bool}{s:UInt64}{p:List GMono}(hq:q.sm n)(hp:psm p n)(hl:p.length<=n):(GW.mk q c i s p []).sm n:=.mk hq hp hl (by simp) (by simp)
theorem zm5(n:Nat):psm [] n:=by intro m hm;simp at hm
theorem zxt{k:Int}{v w:GW}{m n:Nat}(hv:v.sm m)(hw:w.sm n)(cv:v.chk ⟨k,[]⟩)(cw:w.chk ⟨k,[]⟩)(hm:1<=m)(hn:1<=n):(zaq k v w).sm (m+n+1):=by
 unfold zaq;have hv':=hv.mono (show m<=m+n+1 by omega);have hw':=hw.mono (show n<=m+n+1 by omega);split
 ·exact .one 0 (zkj hv.q hw.q hm hn) (zm5 _) (by simp)
 ·split
  ·split
   ·exact hw'
   ·exact hv'
  ·split
   ·split
    ·exact hw'
    ·exact hv'
   ·split
    ·exact .one 0 (zg6 _) (zm5 _) (by simp)
    ·exact .one 0 (zg6 _) (yck (zo2 cv) (zo2 cw) hv.poly hw.poly hm hn) (by have:=zq6 v.poly w.poly;have:=hv.len;have:=hw.len;omega)
theorem zhm{a b:Nat}(h:a<=b):4294967296^a<=4294967296^b:=ymn (by omega) h
theorem z8c(v w:GW)(n:Nat)(hv:v.sm n)(hw:w.sm n)(hn:n<=2000)(hn1:1<=n)(cv:v.chk ⟨5,[]⟩)(cw:w.chk ⟨5,[]⟩):Sp P F.aa [enc (⟨5,[]⟩:GRing),enc v,enc w] (.pure (enc (zaq 5 v w))):=by
 have pv:=zo2 cv;have pw:=zo2 cw;have h1:=zxr pv hv.poly hn1 (zib w.poly);have h2:=zxr pw hw.poly hn1 (zib v.poly);rw[ymg (pden w.poly)]at h2;have hl1:=za7 pv;have hl2:=za7 pw;have d1:=zvr hv.poly hn1;have d2:=zvr hw.poly hn1;have hD:pden v.poly*pden w.poly<4294967296^(434*n+2):=by refine ylu (yn7 d1 d2) ?_;rw[<- Nat.pow_add];refine zhm ?_;have e1:n*v.poly.length<=n*216:=yn9 _ hl1;have e2:n*w.poly.length<=n*216:=yn9 _ hl2;omega
 have hB:4294967296^n*(pden v.poly*pden w.poly)<4294967296^(435*n+2):=by
  have:435*n+2=n+(434*n+2):=by omega
  rw[this,ym1];exact Nat.mul_lt_mul_of_pos_left hD (ymv (by omega))
 have hD0:pden v.poly*pden w.poly≠0:=ynr (zib _) (zib _);have hD':=ylu hD (zhm (show 434*n+2<=1048576 by omega));have hB':=ylu (zmn _ _ _ hB hB) (zhm (show 435*n+2+1<=1048576 by omega));exact z3b v w (hv.mono (by omega)) (hw.mono (by omega)) cv cw _ _ _ h1 h2 hD0 hD' hB'
theorem zxw(k:Int)(hk:1<=k/\k<=5)(v w:GW)(n:Nat)(hv:v.sm n)(hw:w.sm n)(hn:n<=2000)(hn1:1<=n)(cv:v.chk ⟨k,[]⟩)(cw:w.chk ⟨k,[]⟩) :
  Sp P F.aa [enc (⟨k,[]⟩:GRing),enc v,enc w] (.pure (enc (zaq k v w))):=by
 have hv':=hv.mono (show n<=1048576 by omega);have hw':=hw.mono (show n<=1048576 by omega);have:k=1\/k=2\/k=3\/k=4\/k=5:=by omega
 rcases this with rfl|rfl|rfl|rfl|rfl
 ·exact z3f v w hv' hw' cv cw
 ·exact z3e v w hv' hw' cv cw
 ·exact z3d v w hv' hw' cv cw
 ·exact z3c v w hv' hw' cv cw
 ·exact z8c v w n hv hw hn hn1 cv cw
def zec:List Int->List GW->List GW->List GW
 | k::ks,v::vs,w::ws=>zaq k v w::zec ks vs ws
 | _,_,_=>[]
def GRing.plus(r:GRing)(v w:GW):GW:=if r.kind=6 then .mk gr0 0 false 0 [] (zec r.parts v.parts w.parts)else zaq r.kind v w
theorem zbe:∀ {ks:List Int} {vs ws:List GW},vs.length=ks.length->ws.length=ks.length->(zec ks vs ws).length=ks.length
 | [],vs,ws,_,_=>by simp[zec]
 | k::ks,[],ws,h,_=>by simp at h
 | k::ks,v::vs,[],_,h=>by simp at h
 | k::ks,v::vs,w::ws,h1,h2=>by simp[zec,zbe (ks:=ks) (vs:=vs) (ws:=ws) (by simpa using h1) (by simpa using h2)]
theorem zbp:∀ {ks:List Int} {vs ws:List GW} {i:Nat} (h:i<ks.length) (h1:i<vs.length) (h2:i<ws.length) (h3:i<(zec ks vs ws).length),(zec ks vs ws)[i]=zaq ks[i] vs[i] ws[i]
 | k::ks,v::vs,w::ws,0,_,_,_,_=>by simp[zec]
 | k::ks,v::vs,w::ws,i+1,h,h1,h2,h3=>by simp only[zec,List.getElem_cons_succ];exact zbp (by simpa using h) (by simpa using h1) (by simpa using h2) (by simpa[zec]using h3)
theorem z3a(r:GRing)(v w:GW)(hv:v.sm 1048576)(hw:w.sm 1048576)(cv:v.chk r)(cw:w.chk r)(h6:r.kind=6)
  (hpart:∀ i (h:i<r.parts.length) (h1:i<v.parts.length) (h2:i<w.parts.length),Sp P F.aa [enc (⟨r.parts[i],[]⟩:GRing),enc v.parts[i],enc w.parts[i]] (.pure (enc (zaq r.parts[i] v.parts[i] w.parts[i])))) :
  Sp P F.aa [enc r,enc v,enc w] (.pure (enc (r.plus v w))):=by
 have hr0:=cv.1;have hp:=GRing.ok_parts hr0 h6;have t1:v.tk r=v:=yl0 cv;have t2:w.tk r=w:=yl0 cw;have k1:=zay r v (hv.mono (by omega));have k2:=zay r w (hw.mono (by omega));rw[t1]at k1;rw[t2]at k2;have lv:=(cv.2.2 h6).1;have lw:=(cw.2.2 h6).1;have lp:(zec r.parts v.parts w.parts).length=r.parts.length:=zbe lv lw;refine Sp.vz c.aa fun _=>?_;simp[g.aa,go_sem];refine zaa (zax r) rfl ?_;simp[hr0,go_sem];refine zab k1 ?_;simp[go_sem];refine zab k2 ?_;simp[go_sem,h6]
 refine zai (S:=fun k:Nat=>mkSt [(3,.ptr 1 0 0 0),(4,.ptr 2 0 0 0),(5,.ptr 3 0 0 0),(6,.ptr 4 0 0 0),(7,.ptr 5 0 0 0),(8,.p (.int .i64 k))]
   [(1,⟨2,[.p (enc r)]⟩),(2,⟨8,[.p (enc v)]⟩),(3,⟨8,[.p (enc w)]⟩),(4,⟨8,[.agg [.p (.bool false),.nil,.nil,.p (.int .i64 0),.p (.bool false),.p (.int .u64 0),.nil,.nil]]⟩),
    (5,⟨8,[.agg [.p (.bool false),.nil,.nil,.p (.int .i64 0),.p (.bool false),.p (.int .u64 0),.nil,.own 6 0 0 k]]⟩),(6,⟨8,avs ((zec r.parts v.parts w.parts).take k)⟩)])
  (I:=fun k=>k<=r.parts.length) (m:=fun k=>r.parts.length - k) 0
  ((Weak.nilCell (s0:=7) (g0:=0) (i:=7) (s:=77) (sz:=8) rfl).trans (Weak.to [3,4,5,6,7,8] [((3,0),1),((4,0),2),((5,0),3),((6,0),4),((7,0),5),((77,0),6)] (by simp[go_sem,h6]))) (by omega) ?_
 rintro k h1 R hn' hr hx;have e1:=i64s k (by omega);simp[g.qd,mkSt,go_sem];refine⟨fun hk=>?_,fun hk=>hx _ _ ?_⟩
 ·have hkv:k<v.parts.length:=by omega
  have hkw:k<w.parts.length:=by omega
  have hpk:=hp.2.2 _ (yl4 hk);refine zaa (zjp r k hk) rfl ?_;simp[go_sem];refine zae hkv ?_
  try simp[go_sem]
  refine zae hkw ?_
  try simp[go_sem]
  refine zab (hpart k hk hkv hkw) ?_;have hkL:k<(zec r.parts v.parts w.parts).length:=by omega
  have hts:avs ((zec r.parts v.parts w.parts).take (k+1))=avs ((zec r.parts v.parts w.parts).take k)++[.p (enc (zaq r.parts[k] v.parts[k] w.parts[k]))]:=by rw[yls hkL,zco,zbp hk hkv hkw hkL];rfl
  simp[e1,go_sem];exact⟨⟨by omega,by omega⟩,hn' (k+1) _ (Weak.to [3,4,5,6,7,8] [((1,0),1),((2,0),2),((3,0),3),((4,0),4),((5,0),5),((97,0),6)] (by simp[go_sem,hts])) (by omega) (by omega)⟩
 ·have hk':k=(zec r.parts v.parts w.parts).length:=by omega
  have hpl:r.plus v w=.mk gr0 0 false 0 [] (zec r.parts v.parts w.parts):=by simp[GRing.plus,h6]
  rw[hpl];subst hk';simp[go_sem]
theorem z8b(r:GRing)(v w:GW)(n:Nat)(hv:v.sm n)(hw:w.sm n)(hn:n<=2000)(hn1:1<=n)(cv:v.chk r)(cw:w.chk r):Sp P F.aa [enc r,enc v,enc w] (.pure (enc (r.plus v w))):=by
 have hr0:=cv.1;by_cases h6:r.kind=6;rotate_left
 ·have hk:=GRing.ok_kind hr0 h6;have he:r=⟨r.kind,[]⟩:=by rw[<- hk.2.2]
  have h1:r.plus v w=zaq r.kind v w:=by simp[GRing.plus,h6]
  rw[h1,he];rw[he]at cv cw;exact zxw r.kind ⟨hk.1,hk.2.1⟩ v w n hv hw hn hn1 cv cw
 exact z3a r v w (hv.mono (by omega)) (hw.mono (by omega)) cv cw h6 fun i h h1 h2 =>
  zxw r.parts[i] ((GRing.ok_parts hr0 h6).2.2 _ (yl4 h)) v.parts[i] w.parts[i] n (hv.parts _ (yl4 h1)) (hw.parts _ (yl4 h2)) hn hn1 (zeu cv h6 h h1) (zeu cw h6 h h2)
end Go.Ab
namespace Go.Ab
open Enc (enc)
theorem z20(v w:GW)(n:Nat)(hv:v.sm n)(hw:w.sm n)(hn:n<=400000)(hn1:1<=n)(pv':PVal v.poly)(pw:PVal w.poly):Sp P F.fg [enc v,enc w] (.pure (enc (zaq 5 v w))):=by
 have h1:v.poly.length<=100000:=by have:=za7 pv';omega
 have h2:w.poly.length<=100000:=by have:=za7 pw;omega
 have k:=zz2 v.poly w.poly n hv.poly hw.poly hn1 hn h1 h2;rw[zoq pv',zoq pw]at k;refine Sp.vz c.fg fun _=>?_;simp[g.fg,go_sem];refine zaa k rfl ?_;simp[go_sem,zaq,gr0]
theorem zxv(k:Int)(hk:1<=k/\k<=5)(v w:GW)(n:Nat)(hv:v.sm n)(hw:w.sm n)(hn:n<=400000)(hn1:1<=n)(sv:v.si k)(sw:w.si k):Sp P (kF3 k) (enc v::enc w::kC3 k) (.pure (enc (zaq k v w))):=by
 have:k=1\/k=2\/k=3\/k=4\/k=5:=by omega
 have hv':=hv.mono (show n<=1048576 by omega);have hw':=hw.mono (show n<=1048576 by omega);rcases this with rfl|rfl|rfl|rfl|rfl
 ·exact z73 v w hv' hw'
 ·exact z9y v w sv sw
 ·exact z9c v w hv' hw' sv sw
 ·exact z7n v w
 ·exact z20 v w n hv hw (by omega) hn1 (sv.2.2.2.2.2.2.2.2 rfl) (sw.2.2.2.2.2.2.2.2 rfl)
theorem yca(r:GRing)(v w:GW)(n:Nat)(hv:v.sm n)(hw:w.sm n)(hn:n<=400000)(hn1:1<=n)(cv:v.chk r)(cw:w.chk r)(h6:r.kind≠6):Sp P F.ap [enc r,enc v,enc w] (.pure (enc (zaq r.kind v w))):=by have hr0:=cv.1;have hk:=GRing.ok_kind hr0 h6;have t1:v.tk r=v:=yl0 cv;have t2:w.tk r=w:=yl0 cw;have k1:=zdy r v (hv.mono (by omega));have k2:=zdy r w (hw.mono (by omega));rw[t1]at k1;rw[t2]at k2;refine Sp.vz c.ap fun _=>?_;simp[g.ap,go_sem];refine zaa (ze0 r) rfl ?_;simp[hr0,go_sem];refine zab k1 ?_;simp[go_sem];refine zab k2 ?_;simp[go_sem,h6];obtain⟨f5,f6,f7,f8,c5,c8,hA⟩:=zet r.kind ⟨hk.1,hk.2.1⟩;refine zaa (zku r.kind ⟨hk.1,hk.2.1⟩) rfl ?_;simp[hA,go_sem];refine zaa (zxv r.kind ⟨hk.1,hk.2.1⟩ v w n hv hw hn hn1 (cv.2.1 h6) (cw.2.1 h6)) (zb3 (by simp[go_sem]) (zb3 (by simp[go_sem]) (zgt _ _))) ?_;simp[go_sem]
theorem z29(k:Int)(hk:1<=k/\k<=5)(v w:GW)(i n:Nat)(iv:i<v.parts.length)(iw:i<w.parts.length)(hi:i<=3)(hv:v.parts[i].sm n)(hw:w.parts[i].sm n)(hn:n<=400000)(hn1:1<=n)(sv:v.parts[i].si k)(sw:w.parts[i].si k) :
  Sp P F.gp [zns k,.int .i64 i,.ref (enc v),.ref (enc w)] (.pure (enc (zaq k v.parts[i] w.parts[i]))):=by
 obtain⟨f5,f6,f7,f8,c5,c8,hA⟩:=zet k hk;rw[hA];refine Sp.of_vmW c.gp (by simp) ((Weak.openRef (t:=2) (v:=enc v) (n:=8) (by simp[go_sem]) (by simp[go_sem])).trans (Weak.openRef (t:=3) (v:=enc w) (n:=8) (by simp[go_sem]) (by simp[go_sem]))) ?_;simp[g.gp,go_sem];refine zae iv ?_;refine zae iw ?_;refine zaa (zxv k hk v.parts[i] w.parts[i] n hv hw hn hn1 sv sw) (zb3 (by simp[go_sem]) (zb3 (by simp[go_sem]) (zgt _ _))) ?_;simp[go_sem]
theorem zjb(st:St)(s g ix off:Nat):toPV st 5 (.ptr s g ix off)=if ix=0/\off=0 then match st.obj s g with
  | some o=>match o.es with
   | [e]=>(toPV st 4 e).map .ref
   | _=>none
  | none=>none
  else none:=rfl
theorem zqq(st:St)(v:PV):toPV st 4 (.p v)=some v:=rfl
theorem ztj(r:GRing)(v w:GW)(n:Nat)(hv:v.sm n)(hw:w.sm n)(hn:n<=400000)(hn1:1<=n)(cv:v.chk r)(cw:w.chk r):Sp P F.ap [enc r,enc v,enc w] (.pure (enc (r.plus v w))):=by
 have hr0:=cv.1;by_cases h6:r.kind=6;rotate_left
 ·have h1:r.plus v w=zaq r.kind v w:=by simp[GRing.plus,h6]
  rw[h1];exact yca r v w n hv hw hn hn1 cv cw h6
 have hp:=GRing.ok_parts hr0 h6;have t1:v.tk r=v:=yl0 cv;have t2:w.tk r=w:=yl0 cw;have k1:=zdy r v (hv.mono (by omega));have k2:=zdy r w (hw.mono (by omega));rw[t1]at k1;rw[t2]at k2;have lv:=(cv.2.2 h6).1;have lw:=(cw.2.2 h6).1;have lp:(zec r.parts v.parts w.parts).length=r.parts.length:=zbe lv lw;refine Sp.vz c.ap fun _=>?_;simp[g.ap,go_sem];refine zaa (ze0 r) rfl ?_;simp[hr0,go_sem];refine zab k1 ?_;simp[go_sem];refine zab k2 ?_;simp[go_sem,h6];refine zaa (zwn r hp.2.2 hp.2.1 F.gp [.ref (enc v),.ref (enc w)] (zec r.parts v.parts w.parts) lp fun i h h'=>?_) ?_ ?_
 ·rw[zbp h (by omega) (by omega) h'];exact z29 r.parts[i] (hp.2.2 _ (yl4 h)) v w i n (by omega) (by omega) (by omega) (hv.parts _ (yl4 _)) (hw.parts _ (yl4 _)) hn hn1 ((cv.2.2 h6).2.2 i h (by omega)) ((cw.2.2 h6).2.2 i h (by omega))
 ·simp[go_sem,zjb,zqq,h6]
 simp[go_sem,GRing.plus,h6]
theorem zl7(r:GRing)(v w:GW)(n:Nat)(hv:v.sm n)(hw:w.sm n)(hn:n<=2000)(hn1:1<=n)(cv:v.chk r)(cw:w.chk r):Sp P F.ap [enc r,enc v,enc w] (.pure (enc (r.plus v w))):=ztj r v w n hv hw (by omega) hn1 cv cw
theorem zh4{k:Int}(hk:1<=k/\k<=5):(zb1 k).si k:=by
 have:k=1\/k=2\/k=3\/k=4\/k=5:=by omega
 have h1:=zn0;rcases this with rfl|rfl|rfl|rfl|rfl
 ·rw[si1];exact⟨rfl,rfl,rfl,rfl,rfl,h1⟩
 ·rw[si2];exact⟨rfl,rfl,rfl,rfl,Int.le_refl 0,by simp[zb1,GW.cost],fun _=>rfl⟩
 ·rw[si3];exact⟨rfl,rfl,rfl,rfl,rfl,h1,by show 0<=gr0.v;rw[zg9];decide,by show gr0.v<=1;rw[zg9];decide⟩
 ·rw[si4];exact⟨rfl,rfl,rfl,rfl,rfl⟩
 ·rw[si5];exact⟨rfl,rfl,rfl,rfl,rfl,zhq⟩
theorem zcb{k:Int}(hk:1<=k/\k<=5){v w:GW}(hv:v.si k)(hw:w.si k):(zaq k v w).si k:=by
 have:k=1\/k=2\/k=3\/k=4\/k=5:=by omega
 rcases this with rfl|rfl|rfl|rfl|rfl
 ·rw[si1];exact⟨rfl,rfl,rfl,rfl,rfl,zbc _⟩
 ·unfold zaq;simp only[yl1 (show ¬ (2:Int)=1 by decide),yl0];split<;>assumption
 ·unfold zaq;simp only[yl1 (show ¬ (3:Int)=1 by decide),yl1 (show ¬ (3:Int)=2 by decide),yl0];split<;>assumption
 ·rw[si4];exact⟨rfl,rfl,rfl,rfl,rfl⟩
 ·rw[si5];exact⟨rfl,rfl,rfl,rfl,rfl,zcc _ (si_p hv)⟩
theorem zpo{k:Int}(hk:1<=k/\k<=5){v:GW}(hv:v.si k):zaq k v (zb1 k)=v:=by
 have:k=1\/k=2\/k=3\/k=4\/k=5:=by omega
 cases v with
 | mk q c i s p ps =>
 rcases this with rfl|rfl|rfl|rfl|rfl
 ·obtain⟨h1,h2,h3,h4,h5,h6⟩:=si1.1 hv;simp only[GW.parts_mk,GW.inf_mk,GW.cost_mk,GW.set_mk,GW.poly_mk,GW.q_mk]at h1 h2 h3 h4 h5 h6;subst h1 h2 h3 h4 h5;simp[zaq,zb1,GW.q_mk,zg9,ym6,zg7 h6]
 ·obtain⟨h1,h2,h3,h4,h5,h6,h7⟩:=si2.1 hv;simp only[GW.parts_mk,GW.inf_mk,GW.cost_mk,GW.set_mk,GW.poly_mk,GW.q_mk]at h1 h2 h3 h4 h5 h6 h7;subst h1 h2 h3 h4;cases i
  ·simp[zaq,zb1,GW.inf_mk]
  ·have:=h7 rfl;subst this;simp[zaq,zb1,GW.inf_mk]
 ·obtain⟨h1,h2,h3,h4,h5,h6,h7,h8⟩:=si3.1 hv;simp only[GW.parts_mk,GW.inf_mk,GW.cost_mk,GW.set_mk,GW.poly_mk,GW.q_mk]at h1 h2 h3 h4 h5 h6 h7;have:¬ q.v<0:=ynw.2 h7;simp[zaq,zb1,GW.q_mk,zg9,this]
 ·obtain⟨h1,h2,h3,h4,h5⟩:=si4.1 hv;simp only[GW.parts_mk,GW.inf_mk,GW.cost_mk,GW.set_mk,GW.poly_mk,GW.q_mk]at h1 h2 h3 h4 h5;subst h1 h2 h3 h4 h5;simp[zaq,zb1,GW.set_mk]
 ·obtain⟨h1,h2,h3,h4,h5,h6⟩:=si5.1 hv;simp only[GW.parts_mk,GW.inf_mk,GW.cost_mk,GW.set_mk,GW.poly_mk,GW.q_mk]at h1 h2 h3 h4 h5 h6;subst h1 h2 h3 h4 h5;simp[zaq,zb1,GW.poly_mk,padd]
theorem zbr{r:GRing}(h:r.ok=true):r.zero.chk r:=by
 by_cases h6:r.kind=6
 ·refine⟨h,fun h'=>absurd h6 h',fun _=>?_⟩;have hp:=GRing.ok_parts h h6;simp[GRing.zero,h,h6,GW.parts_mk];exact fun i hi _=>zh4 (hp.2.2 _ (yl4 hi))
 ·have hk:=GRing.ok_kind h h6;refine⟨h,fun _=>?_,fun h'=>absurd h' h6⟩;have:r.zero=zb1 r.kind:=by simp[GRing.zero,h,zb1,hk.2.2]
  rw[this];exact zh4 ⟨hk.1,hk.2.1⟩
theorem z6t(k:Int)(n:Nat):(zb1 k).sm n:=.one k (zg6 n) (zm5 n) (by simp)
theorem z1c{r:GRing}{n:Nat}(h:r.ok=true)(hn:3<=n):r.zero.sm n:=by
 have:r.zero=.mk gr0 0 (decide (r.kind=2)) 0 [] (r.parts.map zb1):=by simp[GRing.zero,h]
 rw[this];have hl:r.parts.length<=3:=by
  by_cases h6:r.kind=6
  ·exact(GRing.ok_parts h h6).2.1
  ·simp[(GRing.ok_kind h h6).2.2]
 refine .mk (zg6 n) (zm5 n) (by simp) (by simp;omega) fun w hw=>?_;obtain⟨k,_,rfl⟩:=yl6.1 hw;exact z6t k n
theorem zck{r:GRing}{v w:GW}(hv:v.chk r)(hw:w.chk r):(r.plus v w).chk r:=by
 by_cases h6:r.kind=6
 ·have hp:=GRing.ok_parts hv.1 h6;have lv:=(hv.2.2 h6).1;have lw:=(hw.2.2 h6).1;refine⟨hv.1,fun h=>absurd h6 h,fun _=>?_⟩;have e:r.plus v w=.mk gr0 0 false 0 [] (zec r.parts v.parts w.parts):=by simp[GRing.plus,h6]
  rw[e];refine⟨zbe lv lw,rfl,fun i h h'=>?_⟩;simp only[GW.parts_mk]at h' ⊢;rw[zbp h (by omega) (by omega) h'];exact zcb (hp.2.2 _ (yl4 h)) ((hv.2.2 h6).2.2 i h (by omega)) ((hw.2.2 h6).2.2 i h (by omega))
 ·have hk:=GRing.ok_kind hv.1 h6;have e:r.plus v w=zaq r.kind v w:=by simp[GRing.plus,h6]
  rw[e];exact⟨hv.1,fun _=>zcb ⟨hk.1,hk.2.1⟩ (hv.2.1 h6) (hw.2.1 h6),fun h=>absurd h h6⟩
theorem zc5{r:GRing}{v:GW}(hv:v.chk r):r.plus v r.zero=v:=by
 by_cases h6:r.kind=6
 ·have hp:=GRing.ok_parts hv.1 h6;obtain⟨lv,ev,sv⟩:=hv.2.2 h6;have e:r.plus v r.zero=.mk gr0 0 false 0 [] (zec r.parts v.parts r.zero.parts):=by simp[GRing.plus,h6]
  have ez:r.zero.parts=r.parts.map zb1:=by simp[GRing.zero,hv.1,GW.parts_mk]
  rw[e,ez,ev];simp only[GW.parts_mk]
  congr 1
  refine yof (by rw[zbe lv (by simp),lv]) fun i h1 h2=>?_;have h3:i<r.parts.length:=by rw[<- lv];exact h2
  rw[zbp h3 h2 (by simpa using h3) h1];simp only[List.getElem_map];exact zpo (hp.2.2 _ (List.getElem_mem h3)) (sv i h3 h2)
 ·have hk:=GRing.ok_kind hv.1 h6;have e:r.plus v r.zero=zaq r.kind v r.zero:=by simp[GRing.plus,h6]
  have ez:r.zero=zb1 r.kind:=by simp[GRing.zero,hv.1,zb1,hk.2.2]
  rw[e,ez];exact zpo ⟨hk.1,hk.2.1⟩ (hv.2.1 h6)
theorem z27{r:GRing}{v w:GW}{m n:Nat}(sv:v.sm m)(sw:w.sm n)(hv:v.chk r)(hw:w.chk r)(hm:1<=m)(hn:1<=n):(r.plus v w).sm (m+n+1):=by
 by_cases h6:r.kind=6
 ·have hp:=GRing.ok_parts hv.1 h6;have lv:=(hv.2.2 h6).1;have lw:=(hw.2.2 h6).1;have e:r.plus v w=.mk gr0 0 false 0 [] (zec r.parts v.parts w.parts):=by simp[GRing.plus,h6]
  have hl:=zbe (ks:=r.parts) (vs:=v.parts) (ws:=w.parts) lv lw;rw[e];refine .tup (by rw[hl,<- lv];have:=sv.plen;omega) fun x hx=>?_;obtain⟨i,hi,rfl⟩:=ynb.1 hx;have h3:i<r.parts.length:=by omega
  rw[zbp h3 (by omega) (by omega) hi];exact zxt (sv.parts _ (yl4 _)) (sw.parts _ (yl4 _)) (zeu hv h6 h3 (by omega)) (zeu hw h6 h3 (by omega)) hm hn
 ·have hk:=GRing.ok_kind hv.1 h6;have e:r.plus v w=zaq r.kind v w:=by simp[GRing.plus,h6]
  have er:r=⟨r.kind,[]⟩:=by rw[<- hk.2.2]
  rw[e];rw[er]at hv hw;exact zxt sv sw hv hw hm hn
theorem z1q{r:GRing}{w:GW}(h:w.chk r):w.tk r=w:=yl0 h
end Go.Ab
namespace Go.Ab
open Enc (enc)
attribute [local go_sem] zal Opd.slots
def zcq:List Int->List GW->List GW->List GW
 | k::ks,v::vs,w::ws=>zao k v w::zcq ks vs ws
 | _,_,_=>[]
def GRing.times(r:GRing)(v w:GW):GW:=if r.kind=6 then .mk gr0 0 false 0 [] (zcq r.parts v.parts w.parts)else zao r.kind v w
theorem zaz:∀ {ks:List Int} {vs ws:List GW},vs.length=ks.length->ws.length=ks.length->(zcq ks vs ws).length=ks.length
 | [],vs,ws,_,_=>by simp[zcq]
 | k::ks,[],ws,h,_=>by simp at h
 | k::ks,v::vs,[],_,h=>by simp at h
 | k::ks,v::vs,w::ws,h1,h2=>by simp[zcq,zaz (ks:=ks) (vs:=vs) (ws:=ws) (by simpa using h1) (by simpa using h2)]
theorem za9:∀ {ks:List Int} {vs ws:List GW} {i:Nat} (h:i<ks.length) (h1:i<vs.length) (h2:i<ws.length) (h3:i<(zcq ks vs ws).length),(zcq ks vs ws)[i]=zao ks[i] vs[i] ws[i]
 | k::ks,v::vs,w::ws,0,_,_,_,_=>by simp[zcq]
 | k::ks,v::vs,w::ws,i+1,h,h1,h2,h3=>by simp only[zcq,List.getElem_cons_succ];exact za9 (by simpa using h) (by simpa using h1) (by simpa using h2) (by simpa[zcq]using h3)
theorem z65(r:GRing)(v w:GW)(hv:v.sm 1048576)(hw:w.sm 1048576)(cv:v.chk r)(cw:w.chk r)(h6:r.kind=6)
  (hpart:∀ i (h:i<r.parts.length) (h1:i<v.parts.length) (h2:i<w.parts.length),Sp P F.ae [enc (⟨r.parts[i],[]⟩:GRing),enc v.parts[i],enc w.parts[i]] (.pure (enc (zao r.parts[i] v.parts[i] w.parts[i])))) :
  Sp P F.ae [enc r,enc v,enc w] (.pure (enc (r.times v w))):=by
 have hr0:=cv.1;have hp:=GRing.ok_parts hr0 h6;have t1:v.tk r=v:=yl0 cv;have t2:w.tk r=w:=yl0 cw;have k1:=zay r v (hv.mono (by omega));have k2:=zay r w (hw.mono (by omega));rw[t1]at k1;rw[t2]at k2;have lv:=(cv.2.2 h6).1;have lw:=(cw.2.2 h6).1;have lp:(zcq r.parts v.parts w.parts).length=r.parts.length:=zaz lv lw;refine Sp.vz c.ae fun _=>?_;simp[g.ae,go_sem];refine zaa (zax r) rfl ?_;simp[hr0,go_sem];refine zab k1 ?_;simp[go_sem];refine zab k2 ?_;simp[go_sem,h6]
 refine zai (S:=fun k:Nat=>mkSt [(3,.ptr 1 0 0 0),(4,.ptr 2 0 0 0),(5,.ptr 3 0 0 0),(6,.ptr 4 0 0 0),(7,.ptr 5 0 0 0),(8,.p (.int .i64 k))]
   [(1,⟨2,[.p (enc r)]⟩),(2,⟨8,[.p (enc v)]⟩),(3,⟨8,[.p (enc w)]⟩),(4,⟨8,[.agg [.p (.bool false),.nil,.nil,.p (.int .i64 0),.p (.bool false),.p (.int .u64 0),.nil,.nil]]⟩),
    (5,⟨8,[.agg [.p (.bool false),.nil,.nil,.p (.int .i64 0),.p (.bool false),.p (.int .u64 0),.nil,.own 6 0 0 k]]⟩),(6,⟨8,avs ((zcq r.parts v.parts w.parts).take k)⟩)])
  (I:=fun k=>k<=r.parts.length) (m:=fun k=>r.parts.length - k) 0
  ((Weak.nilCell (s0:=7) (g0:=0) (i:=7) (s:=77) (sz:=8) rfl).trans (Weak.to [3,4,5,6,7,8] [((3,0),1),((4,0),2),((5,0),3),((6,0),4),((7,0),5),((77,0),6)] (by simp[go_sem,h6]))) (by omega) ?_
 rintro k h1 R hn' hr hx;have e1:=i64s k (by omega);simp[g.qe,mkSt,go_sem];refine⟨fun hk=>?_,fun hk=>hx _ _ ?_⟩
 ·have hkv:k<v.parts.length:=by omega
  have hkw:k<w.parts.length:=by omega
  have hpk:=hp.2.2 _ (yl4 hk);refine zaa (zjp r k hk) rfl ?_;simp[go_sem];refine zae hkv ?_
  try simp[go_sem]
  refine zae hkw ?_
  try simp[go_sem]
  refine zab (hpart k hk hkv hkw) ?_;have hkL:k<(zcq r.parts v.parts w.parts).length:=by omega
  have hts:avs ((zcq r.parts v.parts w.parts).take (k+1))=avs ((zcq r.parts v.parts w.parts).take k)++[.p (enc (zao r.parts[k] v.parts[k] w.parts[k]))]:=by rw[yls hkL,zco,za9 hk hkv hkw hkL];rfl
  simp[e1,go_sem];exact⟨⟨by omega,by omega⟩,hn' (k+1) _ (Weak.to [3,4,5,6,7,8] [((1,0),1),((2,0),2),((3,0),3),((4,0),4),((5,0),5),((94,0),6)] (by simp[go_sem,hts])) (by omega) (by omega)⟩
 ·have hk':k=(zcq r.parts v.parts w.parts).length:=by omega
  have hpl:r.times v w=.mk gr0 0 false 0 [] (zcq r.parts v.parts w.parts):=by simp[GRing.times,h6]
  rw[hpl];subst hk';simp[go_sem]
end Go.Ab
namespace Go.Ab
open Enc (enc)
def mD(n:Nat):Nat:=6^n
def mB(n:Nat):Nat:=6291456^n
theorem ygg(n:Nat):mD n≠0:=yps.1 (ymv (by omega))
def qm(n:Nat)(q:Rat):Prop:=qb (mD n) (mB n) q
theorem z2t{m n:Nat}{q:Rat}(h:qm m q)(k:m<=n):qm n q:=by obtain⟨j,rfl⟩:=Nat.le.dest k;have h1:=zfb (6^j) (yps.1 (ymv (by omega))) h;unfold qm mD mB;rw[ym1,ym1];exact zbl h1 (yn9 _ (yqy (by omega) j))
theorem zfp(n:Nat):qm n 0:=zbl (zis _) (ymb _)
structure GW.mb1 (n:Nat) (w:GW):Prop where
 q:qm n w.q.v
 p:∀ e,qm n (pc w.poly e)
structure GW.mb (n:Nat) (w:GW):Prop where
 o:w.mb1 n
 ps:∀ x∈w.parts,x.mb1 n
theorem GW.mb1.mono{m n:Nat}{w:GW}(h:w.mb1 m)(k:m<=n):w.mb1 n:=⟨z2t h.q k,fun e=>z2t (h.p e) k⟩
theorem GW.mb.mono{m n:Nat}{w:GW}(h:w.mb m)(k:m<=n):w.mb n:=⟨h.o.mono k,fun x hx=>(h.ps x hx).mono k⟩
theorem zk0(n c i s):(GW.mk gr0 c i s [] []).mb1 n:=⟨by show qm n gr0.v;rw[zg9];exact zfp n,fun e=>zfp n⟩
theorem zr3(n c i s ps):(GW.mk gr0 c i s [] ps).mb1 n:=⟨by show qm n gr0.v;rw[zg9];exact zfp n,fun e=>zfp n⟩
theorem zop{p q:Rat}(h0:0<=p)(h1:p<=1)(k0:0<=q)(k1:q<=1):p*q<=1:=by have h2:p*q<=p*1:=yqz k1 h0;rw[Rat.mul_one]at h2;exact Rat.le_trans h2 h1
theorem zbb{k:Int}(hk:1<=k/\k<=5){v w:GW}(hv:v.si k)(hw:w.si k):(zao k v w).si k:=by
 have:k=1\/k=2\/k=3\/k=4\/k=5:=by omega
 rcases this with rfl|rfl|rfl|rfl|rfl
 ·rw[si1];exact⟨rfl,rfl,rfl,rfl,rfl,zbc _⟩
 ·obtain⟨h1,h2,h3,h4,h5,h6,h7⟩:=si2.1 hv;obtain⟨k1,k2,k3,k4,k5,k6,k7⟩:=si2.1 hw;unfold zao;rw[yl1 (by omega),yl0 rfl];split
  ·rw[si2];exact⟨rfl,rfl,rfl,rfl,Int.le_refl 0,by show(0:Int)<=1099511627776;omega,fun _=>rfl⟩
  ·rename_i h;rw[si2];exact⟨rfl,rfl,rfl,rfl,by show 0<=v.cost+w.cost;omega,by show v.cost+w.cost<=1099511627776;omega,fun h=>by cases h⟩
 ·obtain⟨h1,h2,h3,h4,h5,h6,h7,h8⟩:=si3.1 hv;obtain⟨k1,k2,k3,k4,k5,k6,k7,k8⟩:=si3.1 hw;rw[si3];refine⟨rfl,rfl,rfl,rfl,rfl,zbc _,?_,?_⟩
  ·show 0<=(rto (v.q.v*w.q.v)).v;rw[zbf];exact Rat.mul_nonneg h7 k7
  ·show(rto (v.q.v*w.q.v)).v<=1;rw[zbf];exact zop h7 h8 k7 k8
 ·rw[si4];exact⟨rfl,rfl,rfl,rfl,rfl⟩
 ·rw[si5];exact⟨rfl,rfl,rfl,rfl,rfl,zbu _ _⟩
theorem za8{r:GRing}{v w:GW}(hv:v.chk r)(hw:w.chk r):(r.times v w).chk r:=by
 by_cases h6:r.kind=6
 ·have hp:=GRing.ok_parts hv.1 h6;have lv:=(hv.2.2 h6).1;have lw:=(hw.2.2 h6).1;refine⟨hv.1,fun h=>absurd h6 h,fun _=>?_⟩;have e:r.times v w=.mk gr0 0 false 0 [] (zcq r.parts v.parts w.parts):=by simp[GRing.times,h6]
  rw[e];refine⟨zaz lv lw,rfl,fun i h h'=>?_⟩;simp only[GW.parts_mk]at h' ⊢;rw[za9 h (by omega) (by omega) h'];exact zbb (hp.2.2 _ (yl4 h)) ((hv.2.2 h6).2.2 i h (by omega)) ((hw.2.2 h6).2.2 i h (by omega))
 ·have hk:=GRing.ok_kind hv.1 h6;have e:r.times v w=zao r.kind v w:=by simp[GRing.times,h6]
  rw[e];exact⟨hv.1,fun _=>zbb ⟨hk.1,hk.2.1⟩ (hv.2.1 h6) (hw.2.1 h6),fun h=>absurd h h6⟩
end Go.Ab
