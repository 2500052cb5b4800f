/-
Proofs for the law TransducerSumsPaths, part 35. Conditions: none.
-/
import Derived.Test.YtbhboeijjgiflaaGreatDoorDP32
import Derived.Test.YtbhboeijjgiflaaGreatDoorDP12
import Derived.Test.YtbhboeijjgiflaaGreatDoorDP23
import Derived.Test.YtbhboeijjgiflaaGreatDoorDP28
import Derived.Test.YtbhboeijjgiflaaGreatDoorDP33
import Derived.Test.YtbhboeijjgiflaaGreatDoorDP34
import Derived.Test.YtbhboeijjgiflaaGreatDoorDP31
import Derived.Test.YtbhboeijjgiflaaGreatDoorDP25
import Derived.Test.YtbhboeijjgiflaaGreatDoorDP29
import Derived.Test.YtbhboeijjgiflaaGreatDoorDP30
set_option maxRecDepth 100000
set_option maxHeartbeats 4000000
set_option linter.all false
namespace Go.Ab
open Enc (enc)
theorem ykm:yam P F.dg 6:=sortK0
theorem yk3(m n:GMono):Sp P F.bu [enc m,enc n] (.pure (.int .i64 (n.e.cmp m.e))):=by refine Sp.vz c.bu fun _=>?_;simp[g.bu,go_sem];refine zaa (zts m.e n.e) rfl ?_;simp[go_sem]
theorem z9a:SpM P F.mo [.sl [],.int .i64 0,.int .i64 0,.fn F.bu []] 0 6 [] (.pure (.tup [])):=by refine SpM.of_vm c.mo (by simp) rfl rfl ?_;simp[g.mo,go_sem];refine zim fun R hn hr hx=>?_;simp[g.se,g.sg,go_sem];refine hx _ _ ?_;simp[go_sem]
theorem z8l(k:Int):SpM P F.je [.sl [],.int .i64 0,.int .i64 0,.int .i64 k,.fn F.bu []] 0 6 [] (.pure (.tup [])):=by refine SpM.of_vm c.je (by simp) rfl rfl ?_;simp[g.je,go_sem];refine zim fun R hn hr hx=>?_;simp[g.sd,go_sem];refine zge z9a (by simp[go_sem]) rfl rfl (by simp) rfl rfl rfl rfl rfl (by simp[go_sem]) ?_;simp[go_sem];exact hr _ (by simp[go_sem])
theorem Ex.cmp_lex(x y:Ex):x.cmp y<0 ↔ x.a<y.a\/(x.a=y.a/\(x.b<y.b\/(x.b=y.b/\x.c<y.c))):=by
 unfold Ex.cmp
 repeat' split
 all_goals omega
def sD(x:PV):Prop:=∃ m:GMono,x=enc m
def sX:PV->Ex
 | .agg (.int _ a::.int _ b::.int _ c::_)=>⟨a,b,c⟩
 | _=>⟨0,0,0⟩
theorem ygi(m:GMono):sX (enc m)=m.e:=rfl
theorem Ex.ext'{x y:Ex}(h1:¬ x.cmp y<0)(h2:¬ y.cmp x<0):x=y:=by rw[Ex.cmp_lex]at h1 h2;cases x;cases y;simp only[Ex.mk.injEq]at *;omega
theorem z7q(l l':List GMono)(hl:l.length<=1073741824)(hk:(l.map (·.e)).Nodup)(hp:l'.Perm l)(hs:l'.Pairwise fun x y=>y.e.cmp x.e<0):SpM P F.dg [.sl (ens l),.fn F.bu []] 0 6 (ens l') (.pure (.tup [])):=by
 have hfn:=zk6 c.dg;have hgn:=zk6 c.bu;cases l with
 | nil =>
  have:l'=[]:=List.Perm.eq_nil hp;subst this;refine SpM.of_vm c.dg (by simp) rfl rfl ?_;simp[g.dg,go_sem];refine zaa ydn rfl ?_;simp[go_sem];refine zge (z8l 0) (by simp[go_sem]) rfl rfl (by simp) rfl rfl rfl rfl rfl (by simp[go_sem]) ?_;simp[go_sem]
 | cons m l =>
  have hnd:∀ x y:GMono,x∈m::l->y∈m::l->x.e=y.e->x=y:=fun x y hx hy he=>by obtain⟨i,hi⟩:=List.getElem?_of_mem hx;obtain⟨j,hj⟩:=List.getElem?_of_mem hy;obtain⟨i1,i2⟩:=List.getElem?_eq_some_iff.1 hi;obtain⟨j1,j2⟩:=List.getElem?_eq_some_iff.1 hj;have:i=j:=(List.getElem_inj (h₀ := by simpa using i1) (h₁ := by simpa using j1) hk).1 (by simp only[List.getElem_map,i2,j2,he]);subst this;rw[<- i2,<- j2]
  refine ykm.spM hfn (by decide) (D:=sD) (c:=fun x y=>(sX y).cmp (sX x)) hgn ?_ ?_ ?_ ?_ (by simp[ens]) (by simp only[zql];omega) ?_ ?_ ?_
  ·rintro _ _ ⟨x,rfl⟩ ⟨y,rfl⟩;exact yk3 x y
  ·rintro _ ⟨x,rfl⟩;rw[Ex.cmp_lex];omega
  ·rintro _ _ _ ⟨x,rfl⟩ ⟨y,rfl⟩ ⟨z,rfl⟩ h1 h2;simp only[Ex.cmp_lex]at *;omega
  ·rintro _ _ _ ⟨x,rfl⟩ ⟨y,rfl⟩ ⟨z,rfl⟩ h1 h2;simp only[Ex.cmp_lex]at *;omega
  ·intro e he;obtain⟨x,_,rfl⟩:=ym6.1 he;exact⟨x,rfl⟩
  ·intro e he;exact z13 _ e he
  ·intro l0 h0 hs0;have hpe:(ens l').Perm (ens (m::l)):=hp.map _;refine List.Perm.eq_of_pairwise (le:=fun x y=>¬ (sX x).cmp (sX y)<0) (fun a b ha hb h1 h2=>?_) hs0 ?_ (h0.trans hpe.symm)
   ·obtain⟨x,hx,rfl⟩:=ym6.1 (h0.mem_iff.1 ha);obtain⟨y,hy,rfl⟩:=ym6.1 (hpe.mem_iff.1 hb);have:=hnd x y hx hy (Ex.ext' h1 h2);rw[this]
   ·rw[ens,yrx];refine hs.imp fun {x y} h=>?_;simp only[ygi,Ex.cmp_lex]at *
    omega
def nzm(p:Ex × GRat):Option GMono:=if p.2.v≠0 then some ⟨p.1,p.2⟩else none
def nz(L:List (Ex × GRat)):List GMono:=L.filterMap nzm
def nzAt(L:List (Ex × GRat))(j:Nat):Option GMono:=L[j]?.bind nzm
theorem zhv{α β : Type}(f : α -> Option β):∀ (L:List α),(List.range L.length).filterMap (fun j=>L[j]?.bind f)=L.filterMap f
 | []=>rfl
 | x::L=>by
  rw[yo8,List.range_succ_eq_map,yqu];have h:(List.map Nat.succ (List.range L.length)).filterMap (fun j=>(x::L)[j]?.bind f)=L.filterMap f:=by rw[List.filterMap_map,<- zhv f L];rfl
  simp only[List.getElem?_cons_zero,Option.bind_some,h,yqu]
theorem z8q(L:List (Ex × GRat)):(List.range L.length).filterMap (nzAt L)=nz L:=zhv nzm L
theorem zqj{j:Nat}{Lf:List Nat}(hj:j∈Lf):∀ {R:List Nat},R.Nodup->(R.filter fun i=>i∉Lf.filter fun i => !decide (i=j)).Perm ((if j∈R then[j]else[])++R.filter fun i=>i∉Lf)
 | [],_=>by simp
 | x::R,h=>by
  obtain⟨h1,h2⟩:=yo0.1 h;have ih:=zqj hj h2;by_cases hx:x=j
  ·subst hx;have e1:decide (x∉Lf.filter fun i => !decide (i=x))=true:=by simp
   have e2:decide (x∉Lf)=false:=by simp[hj]
   rw[ym1 h1]at ih;simp only[yqv,e1,e2,ymw,ym9,ym7,true_or,ym2,List.singleton_append,yom]at ih ⊢;exact ih.cons x
  ·have hm:(j∈x::R) ↔ j∈R:=by simp[yn8 hx]
   simp only[hm];by_cases hf:x∈Lf
   ·have e1:decide (x∉Lf.filter fun i => !decide (i=j))=false:=by simp[hf,hx]
    have e2:decide (x∉Lf)=false:=by simp[hf]
    simp only[yqv,e1,e2,ymw,ym9];exact ih
   ·have e1:decide (x∉Lf.filter fun i => !decide (i=j))=true:=by simp[hf]
    have e2:decide (x∉Lf)=true:=by simp[hf]
    simp only[yqv,e1,e2,ym2];exact(ih.cons x).trans List.perm_middle.symm
theorem ydg{L:List (Ex × GRat)}{Lf:List Nat}{j:Nat}(hj:j∈Lf)(hl:j<L.length){acc:List GMono}(h:acc.Perm (((List.range L.length).filter fun i=>i∉Lf).filterMap (nzAt L))) :
  (match nzAt L j with|some m=>acc++[m]|none=>acc).Perm (((List.range L.length).filter fun i=>i∉Lf.filter fun i => !decide (i=j)).filterMap (nzAt L)):=by
 have h1:=(zqj hj (R:=List.range L.length) yqm).filterMap (nzAt L);rw[ym0 (yng.2 hl),List.singleton_append,yqu]at h1;refine List.Perm.trans ?_ h1.symm;cases nzAt L j with
 | none=>exact h
 | some m=>exact(List.perm_append_comm (l₁ := acc) (l₂ := [m])).trans (h.cons m)
theorem zrg{L:List (Ex × GRat)}(h:(L.map (·.1)).Nodup):((nz L).map (·.e)).Nodup:=by
 have hsub:∀ L:List (Ex × GRat),((nz L).map (·.e)).Sublist (L.map (·.1)):=by
  intro L
  induction L with
  | nil=>exact List.Sublist.refl _
  | cons p L ih =>
   simp only[nz,yqu,nzm]at ih ⊢;split
   ·rename_i hn;exact ih.cons _
   ·rename_i m hm;split at hm
    ·cases hm;exact ih.cons_cons _
    ·cases hm
 exact(hsub L).nodup h
def lsS(r':Nat)(acc:List GMono):St:=mkSt [(3,.own 1 0 0 acc.length),(7,.p (.itv r'))] [(1,⟨6,avs acc⟩)]
def lsI(r' r:Nat)(L:List (Ex × GRat))(n:Nat)(s:St)(B:Option FA):Prop:=∃ acc Lf cur,Weak s (lsS r' acc)/\B=some (itFA r' r (mks L) (mvs L) Lf cur)/\Lf.length=n/\acc.length+Lf.length<=L.length/\acc.Perm (((List.range L.length).filter fun i=>i∉Lf).filterMap (nzAt L))
def lsE(r':Nat)(L:List (Ex × GRat))(ex:Exit)(s:St):Prop:=ex=.exit 0/\∃ acc,Weak s (lsS r' acc)/\acc.Perm (nz L)/\acc.length<=L.length
theorem zpi(r:Nat)(L:List (Ex × GRat))(hL:∀ p∈L,p.2.sm 4194304)(hkn:(L.map (·.1)).Nodup)(hlen:L.length<=1000000)(l':List GMono)(hp:l'.Perm (nz L))(hs:l'.Pairwise fun x y=>y.e.cmp x.e<0) :
  Sp P F.fc [.mp r (mks L) (mvs L)] (.fresh 6 (ens l')):=by
 refine Sp.of_mr c.fc (by simp) ?_;unfold g.fc;generalize hP:(fun ex s (_:Option FA)=>retP [(2,none)] (RV.fresh 6 (ens l')) ex s)=Post;refine MR.gseq ?_;simp[go_sem];refine MR.gseq ?_;simp[go_sem];refine MR.gseq' (MR.gseq' (MR.greg (zmk 1 [[0],[6]] ?_)));simp[go_sem];refine MIns.cons (z4h ty.map (by rfl) fun r'=>?_);refine zff [] ?_;simp[go_sem];refine MR.gblk (MR.mono (MR.gloop (Post:=fun ex s B=>lsE r' L ex s) (I:=lsI r' r L) L.length ?_ ?_) ?_)
 ·refine⟨[],List.range L.length,none,?_,by simp[mks],by simp,by simp,?_⟩
  ·exact Weak.nl 3 1 6 rfl (Weak.to [3,7] [((1,0),1)] (by simp[lsS,mkSt,go_sem]))
  ·have:(List.range L.length).filter (fun i=>i∉List.range L.length)=[]:=by rw[List.filter_eq_nil_iff];intro a ha;simp at ha ⊢;exact ha
   rw[this];exact List.Perm.refl _
 ·rintro n s B ⟨acc,Lf,cur,hw,rfl,hn,hac,hperm⟩;refine MR.weak hw ?_;unfold g.ru;refine MR.gseq' (MR.greg (MIns.cons (z8v rfl (fun h0=>?_) (fun j hj kv vv hkv hvv=>?_))))
  ·refine zff [[8]] ?_;simp[go_sem];refine MR.gseq' (MR.gcond (t:=false) rfl (fun h=>by cases h) (fun _=>MR.gext ⟨fun h=>(by cases h),fun _=>⟨fun h=>(by cases h),fun _=>⟨rfl,acc,?_,?_,by omega⟩⟩⟩))
   ·exact Weak.to [3,7] [((1,0),1)] (by simp[lsS,mkSt,go_sem])
   ·subst h0;have e:(List.range L.length).filter (fun i=>decide (i∉([]:List Nat)))=List.range L.length:=List.filter_eq_self.2 (by simp);rw[e,z8q]at hperm;exact hperm
  ·obtain⟨p,hpj,rfl,rfl⟩:∃ p:Ex × GRat,L[j]?=some p/\kv=enc p.1/\vv=enc p.2:=by simp only[mks,ynb,yof]at hkv;obtain⟨p,h1,rfl⟩:=hkv;simp only[mvs,ynb,h1,ypz,ym4]at hvv;exact⟨p,h1,rfl,hvv.symm⟩
   have hjl:=(yo3.1 hpj).1;refine zff [[8]] ?_;simp[go_sem];refine MR.gseq' (MR.gcond (t:=true) rfl (fun _=>MR.gnop ⟨fun _=>?_,fun h=>absurd rfl h⟩) (fun h=>by cases h));refine MR.gblk (MR.gseq' (MR.greg (MIns.cons (z4i rfl hkv hvv ?_))));refine zff [[],[10],[],[],[11],[12]] ?_;simp[lsS,mkSt,go_sem];refine MR.of_vm ?_;simp[go_sem];refine zaa (zmc p.2 (hL p (yow hpj))) rfl ?_;have hstep:=ydg hj hjl hperm;have hlt:(Lf.filter fun i => !decide (i=j)).length<Lf.length:=by refine Nat.lt_of_le_of_ne (yoh _ _) fun h=>?_;have:=(List.length_filter_eq_length_iff.1 h) j hj;simp at this
   by_cases hz:p.2.v=0
   ·have hsg:sgnR p.2.v=0:=(zfy _).2 hz;simp[go_sem,hsg];have hnz:nzAt L j=none:=by simp[nzAt,hpj,nzm,hz]
    rw[hnz]at hstep;exact⟨fun _=>⟨_,by rw[<- hn];exact hlt,acc,_,_,Weak.to [3,7] [((1,0),1)] (by simp[lsS,mkSt,go_sem]),rfl,rfl,by omega,hstep⟩,fun h=>absurd rfl h⟩
   ·have hsg:sgnR p.2.v≠0:=fun h=>hz ((zfy _).1 h);simp[go_sem,hsg];have hnz:nzAt L j=some ⟨p.1,p.2⟩:=by simp[nzAt,hpj,nzm,hz]
    rw[hnz]at hstep;exact⟨by omega,fun _=>⟨_,by rw[<- hn];exact hlt,acc++[⟨p.1,p.2⟩],_,_,Weak.to [3,7] [((21,0),1)] (by simp[lsS,mkSt,go_sem]),rfl,rfl,by simp;omega,hstep⟩,fun h=>absurd rfl h⟩
 ·rintro ex s B ⟨rfl,acc,hw,hperm,hac⟩;refine⟨fun _=>?_,fun h=>absurd rfl h⟩;refine MR.weak hw (MR.of_vm ?_);simp[lsS,mkSt,go_sem];subst hP;have hkn':(acc.map (·.e)).Nodup:=(hperm.map _).nodup_iff.2 (zrg hkn);have hll:l'.length=acc.length:=(hp.trans hperm.symm).length_eq;refine zge (z7q acc l' (by omega) hkn' (hp.trans hperm.symm) hs) (by simp[go_sem]) rfl rfl (by simp) (by simp[go_sem]) (by simp[go_sem,hll]) rfl (zdx _ _ rfl) (cells_one (fun _=>rfl) _) (by simp[go_sem]) ?_;simp[go_sem,hll]
theorem zR_v:zR.v=0:=zf9
structure MInv (ms:List GMono) (L:List (Ex × GRat)):Prop where
 tot:∀ e,(ziw e L).v=pc ms e
 val:∀ e c,mget e L=some c->c=rto (pc ms e)/\∃ m∈ms,m.e=e
 nod:(L.map (·.1)).Nodup
 len:L.length<=ms.length
theorem zyi{κ α : Type}[DecidableEq κ](e : κ)(c : α):∀ L:List (κ × α),(mset e c L).length<=L.length+1
 | []=>by simp[mset]
 | (e',c')::L=>by have:=zyi e c L;simp only[mset];split<;>simp<;>omega
theorem znt{κ α : Type}[DecidableEq κ]{e : κ}{c : α}:∀ {L:List (κ × α)},(L.map (·.1)).Nodup->(e,c)∈L->mget e L=some c
 | (e',c')::L,hn,h=>by
  obtain⟨h1,h2⟩:=yo0.1 hn;simp only[mget];rcases ym7.1 h with h|h
  ·cases h;simp
  ·have:e'≠e:=by rintro rfl;exact h1 (ym6.2 ⟨_,h,rfl⟩)
   rw[ym1 this];exact znt h2 h
theorem MInv.step{ms:List GMono}{L:List (Ex × GRat)}(h:MInv ms L)(m:GMono):MInv (ms++[m]) (madd m L):=by
 have hpc:∀ e,pc (ms++[m]) e=pc ms e+if m.e=e then m.coef.v else 0:=fun e=>by rw[zf2];simp[pc,yn5]
 refine⟨fun e=>?_,fun e c hc=>?_,z0k _ _ h.nod,?_⟩
 ·rw[hpc];simp only[ziw,madd,znu];split
  ·rename_i he;subst he;simp only[ypq,zbe];have:=h.tot m.e;simp only[ziw]at this;rw[this]
  ·rw[yn5];exact h.tot e
 ·simp only[madd,znu]at hc;rw[hpc];split at hc
  ·rename_i he;subst he;cases hc;exact⟨by rw[h.tot,ym0 rfl],m,by simp,rfl⟩
  ·rename_i he;obtain⟨q1,x,q2,q3⟩:=h.val e c hc;exact⟨by rw[ym1 he,yn5];exact q1,x,by simp[q2],q3⟩
 ·have:=zyi m.e (rto ((ziw m.e L).v+m.coef.v)) L;have:=h.len;simp only[madd,yp4,List.length_singleton];omega
def zf6(ms:List GMono)(L:List (Ex × GRat)):List (Ex × GRat):=ms.foldl (fun L m=>madd m L) L
theorem MInv.fold:∀ (ms':List GMono) {ms:List GMono} {L:List (Ex × GRat)},MInv ms L->MInv (ms++ms') (zf6 ms' L)
 | [],ms,L,h=>by simpa[zf6]using h
 | m::ms',ms,L,h=>by have:=MInv.fold ms' (h.step m);simpa[zf6]using this
theorem MInv.nil:MInv [] []:=⟨fun e=>zR_v,fun e c h=>(by cases h),by simp,by simp⟩
theorem minv(ms:List GMono):MInv ms (zf6 ms []):=by simpa using MInv.fold ms MInv.nil
theorem MInv.mem{ms:List GMono}{L:List (Ex × GRat)}(h:MInv ms L){p:Ex × GRat}(hp:p∈L):p.2=rto (pc ms p.1)/\∃ m∈ms,m.e=p.1:=h.val p.1 p.2 (znt h.nod hp)
theorem z3v{p q:List GMono}(h:p.Perm q)(e:Ex):pc p e=pc q e:=by
 induction h with
 | nil=>rfl
 | cons x _ ih=>simp only[pc,ih]
 | swap x y l=>simp only[pc];rw[<- Rat.add_assoc,<- Rat.add_assoc,yok (if y.e=e then y.coef.v else 0)]
 | trans _ _ ih1 ih2=>rw[ih1,ih2]
theorem zv1{L:List (Ex × GRat)}{m:GMono}(h:m∈nz L):(m.e,m.coef)∈L/\m.coef.v≠0:=by
 obtain⟨p,hp,h⟩:=List.mem_filterMap.1 h;unfold nzm at h;split at h
 ·rename_i hz;cases h;exact⟨hp,hz⟩
 ·cases h
theorem yc6:∀ {L:List (Ex × GRat)} (e:Ex),(L.map (·.1)).Nodup->pc (nz L) e=(ziw e L).v
 | [],e,_=>by simp[nz,pc,ziw,mget,zR_v]
 | (e1,c1)::L,e,h=>by
  obtain⟨h1,h2⟩:=yo0.1 h;have ih:=yc6 (L:=L) e h2;have hcons:nz ((e1,c1)::L)=if c1.v≠0 then⟨e1,c1⟩::nz L else nz L:=by simp only[nz,yqu,nzm];split<;>split<;>simp_all
  rw[hcons];simp only[ziw,mget];by_cases he:e1=e
  ·subst he;have hz:pc (nz L) e1=0:=zit fun m hm hme=>h1 (ym6.2 ⟨_,(zv1 hm).1,hme⟩);split
   ·simp[pc,hz,yn5]
   ·rename_i hc;simp at hc;simp[hz,hc]
  ·simp only[ym1 he];simp only[ziw]at ih;split
   ·simp[pc,he,ih,yp0]
   ·exact ih
theorem z3w{p q:List GMono}(hp:PVal p)(hq:PVal q){L:List (Ex × GRat)}(h:MInv (p++q) L):(padd p q).Perm (nz L):=by
 have hok:∀ m∈p++q,m.ok=true:=fun m hm=>by
  rcases ymn.1 hm with h|h
  ·exact(zaj.1 hp).1 m h
  ·exact(zaj.1 hq).1 m h
 have hnok:∀ m∈nz L,m.ok=true:=fun m hm=>by obtain⟨h1,h2⟩:=zv1 hm;obtain⟨h3,x,h4,h5⟩:=h.mem h1;simp only at h3 h5;refine GMono.ok_iff.2 ⟨?_,by rw[h3];exact zbf _,h2⟩;rw[<- h5];exact(GMono.ok_iff.1 (hok x h4)).1
 let le:GMono->GMono->Bool:=fun a b=>decide (b.e.code<=a.e.code)
 have hperm:((nz L).mergeSort le).Perm (nz L):=List.mergeSort_perm _ _;have hsort:((nz L).mergeSort le).Pairwise fun a b=>le a b=true:=List.pairwise_mergeSort (fun a b c h1 h2=>by simp only[le,decide_eq_true_eq]at *;omega) (fun a b=>by simp only[le,yq7,decide_eq_true_eq];omega) _;have hnd:(((nz L).mergeSort le).map (·.e)).Nodup:=(hperm.map _).nodup_iff.2 (zrg h.nod);have hval:PVal ((nz L).mergeSort le):=by
  refine zaj.2 ⟨fun m hm=>hnok m (hperm.mem_iff.1 hm),?_⟩;have h2:((nz L).mergeSort le).Pairwise fun a b=>a.e≠b.e:=List.pairwise_map.1 hnd;refine(hsort.and h2).imp_of_mem fun {a b} ha hb hab=>?_;have oa:=(GMono.ok_iff.1 (hnok a (hperm.mem_iff.1 ha))).1;have ob:=(GMono.ok_iff.1 (hnok b (hperm.mem_iff.1 hb))).1;have h3:b.e.code<=a.e.code:=by simpa[le]using hab.1
  have h4:b.e.code≠a.e.code:=fun he=>hab.2 ((Ex.code_inj ob oa).1 he).symm;omega
 have:padd p q=(nz L).mergeSort le:=by refine zh9 (zcf q hp) hval fun e=>?_;rw[ze2 p (zaj.1 hq).1,z3v hperm,yc6 e h.nod,h.tot,zf2]
 rw[this];exact hperm
theorem zvw{p q:List GMono}(hp:PVal p):(padd p q).Pairwise fun x y=>y.e.cmp x.e<0:=by have hv:=zaj.1 (zcf q hp);refine hv.2.imp_of_mem fun {a b} ha hb h=>?_;exact(Ex.cmp_neg (GMono.ok_iff.1 (hv.1 b hb)).1 (GMono.ok_iff.1 (hv.1 a ha)).1).2 h
theorem MInv.sm{p q:List GMono}{n:Nat}(hp:PVal p)(hq:PVal q)(sp:psm p n)(sq:psm q n)(hn:1<=n){L:List (Ex × GRat)}(h:MInv (p++q) L):∀ x∈L,x.1.ok=true/\x.2.sm (n+n+1):=by
 intro x hx;obtain⟨h1,m,h2,h3⟩:=h.mem hx;refine⟨?_,?_⟩
 ·rw[<- h3];rcases ymn.1 h2 with h|h
  ·exact(GMono.ok_iff.1 ((zaj.1 hp).1 m h)).1
  ·exact(GMono.ok_iff.1 ((zaj.1 hq).1 m h)).1
 ·have ga:∀ {p:List GMono},PVal p->psm p n->∃ a:GRat,a.sm n/\a.v=pc p x.1:=fun {p} hv sp=>by
   rcases zjq hv x.1 with h|⟨y,hy,h⟩
   ·exact⟨gr0,zg6 n,by rw[zf9,h]⟩
   ·exact⟨y.coef,sp y hy,h.symm⟩
  obtain⟨a,a1,a2⟩:=ga hp sp;obtain⟨b,b1,b2⟩:=ga hq sq;rw[h1,zf2,<- a2,<- b2];exact zkn a1 b1 hn hn
def paS(r:Nat)(ms:List GMono)(k:Nat):St:=mkSt [(5,.p (.mapv r)),(14,.own 1 0 0 ms.length),(15,.p (.int .i64 ms.length)),(16,.p (.int .i64 k))] [(1,⟨6,avs ms⟩)]
def paB(r:Nat)(ms:List GMono):Option FA:=some (zii r (mks (zf6 ms [])) (mvs (zf6 ms [])))
def paI(r:Nat)(ms:List GMono)(n:Nat)(s:St)(B:Option FA):Prop:=∃ k,k<=ms.length/\n=ms.length - k/\Weak s (paS r ms k)/\B=paB r (ms.take k)
def paE(r:Nat)(ms:List GMono)(ex:Exit)(s:St)(B:Option FA):Prop:=ex=.exit 0/\Weak s (paS r ms ms.length)/\B=paB r ms
theorem z0n(ms:List GMono)(m:GMono):zf6 (ms++[m]) []=madd m (zf6 ms []):=by simp[zf6]
def paR:GC:=.seq (.reg [⟨some 27,.mv (.t 5),none⟩,⟨some 28,.call F.fc [.t 27],none⟩,⟨some 4,.mv (.t 28),none⟩] [[5,14,15,16],[27],[28]])
 (.ret)
theorem z3x(r:Nat)(p q:List GMono)(n:Nat)(vp:PVal p)(vq:PVal q)(sp:psm p n)(sq:psm q n)(hn1:1<=n)(hn:n<=400000)(lp:p.length<=100000)(lq:q.length<=100000){s:St}(hw:Weak s (paS r (p++q) 0)) :
  MR P 29 (GC.blk 0 (.loop g.ou)).er s (paB r []) fun ex s B=>(ex=.normal->MR P 29 paR.er s B fun ex s _=>retP [(4,none)] (RV.pure (.sl (ens (padd p q)))) ex s)/\(ex ≠ .normal->retP [(4,none)] (RV.pure (.sl (ens (padd p q)))) ex s):=by
 have hlen:(p++q).length<=200000:=by simp;omega
 have hokm:∀ m∈p++q,m.e.ok=true/\m.coef.sm n:=fun m hm=>by
  rcases ymn.1 hm with h|h
  ·exact⟨(GMono.ok_iff.1 ((zaj.1 vp).1 m h)).1,sp m h⟩
  ·exact⟨(GMono.ok_iff.1 ((zaj.1 vq).1 m h)).1,sq m h⟩
 have hinv:∀ k,∀ x∈zf6 ((p++q).take k) [],x.1.ok=true/\x.2.sm 1048576:=fun k x hx=>by have h:=minv ((p++q).take k);have e:(p++q).take k=p.take k++q.take (k - p.length):=List.take_append;rw[e]at h hx;obtain⟨h1,h2⟩:=h.sm (vp.take k) (vq.take _) (fun m hm=>sp m (yn2 hm)) (fun m hm=>sq m (yn2 hm)) hn1 x hx;exact⟨h1,h2.mono (by omega)⟩
 have hfin:=minv (p++q);have hsm:=hinv (p++q).length;rw[yn1]at hsm;have hperm:=z3w vp vq hfin;have hsort:=zvw (p:=p) (q:=q) vp;generalize hms:p++q=ms at *
 refine MR.gblk (MR.mono (MR.gloop (Post:=paE r ms) (I:=paI r ms) ms.length ⟨0,by omega,by omega,hw,rfl⟩ ?_) ?_)
 ·rintro n0 s B ⟨k,hk,rfl,hw,rfl⟩;refine MR.weak hw ?_;unfold g.ou;refine MR.gseq ?_;simp[paS,mkSt,go_sem];by_cases hlt:k<ms.length
  ·refine MR.gseq' (MR.gcond (t:=true) (by simp[go_sem,hlt]) (fun _=>MR.gnop ⟨fun _=>?_,fun h=>absurd rfl h⟩) (fun h=>by cases h));simp[go_sem];refine MR.gseq' (MR.gblk (MR.gseq ?_));simp[go_sem];refine⟨hlt,zae hlt ?_⟩;have hmk:=hokm ms[k] (ym3 hlt);refine MR.greg (zmk 5 [[],[],[21],[7],[23]] ?_);simp[go_sem];refine MIns.cons (zt4 (args:=[enc ms[k].e,enc ms[k].coef]) (ztb ms[k] _ hmk.1 (hmk.2.mono (by omega)) (hinv k)) (by simp[go_sem]) (zri _) (zrh _) ?_);refine zff [[20,22,24,25]] ?_;simp[go_sem];refine⟨fun _=>MR.of_vm ?_,fun h=>absurd rfl h⟩;have e3:=i64s k (by omega);simp[go_sem,e3];refine⟨_,?_,k+1,by omega,rfl,Weak.to [5,14,15,16] [((1,0),1)] (by simp[paS,mkSt,go_sem]),?_⟩
   ·omega
   ·simp only[paB];rw[ymr hlt,z0n]
  ·have hk':k=ms.length:=by omega
   refine MR.gseq' (MR.gcond (t:=false) (by simp[go_sem,hlt]) (fun h=>by cases h) (fun _=>MR.gext ⟨fun h=>(by cases h),fun _=>⟨fun h=>(by cases h),fun _=>⟨rfl,?_,?_⟩⟩⟩))
   ·exact Weak.to [5,14,15,16] [((1,0),1)] (by simp[paS,mkSt,go_sem,hk'])
   ·rw[hk',yn1]
 ·rintro ex s B ⟨rfl,hw,rfl⟩;refine⟨fun _=>?_,fun h=>absurd rfl h⟩;refine MR.weak hw (MR.freeze (t:=5) rfl ?_);refine MR.of_vm ?_;simp[paR,paS,mkSt,go_sem];have hpl:=zmi p q;refine zcl (zpi r (zf6 ms []) (fun x hx=>(hsm x hx).2.mono (by omega)) hfin.nod (by have:=hfin.len;omega) (padd p q) hperm hsort) (by simp[go_sem]) ⟨zdx _ _ rfl,by decide,by simp[ens,LIM];omega⟩ _ rfl ?_;simp[go_sem,killAll]
theorem z0b(p q:List GMono)(n:Nat)(sp:psm p n)(sq:psm q n)(hn1:1<=n)(hn:n<=400000)(lp:p.length<=100000)(lq:q.length<=100000) :
  Sp P F.lk [.sl (ens p),.sl (ens q)] (.pure (.sl (ens (padd (pv p) (pv q))))):=by
 refine Sp.of_mr c.lk (by simp) ?_;unfold g.lk;generalize hP:(fun ex s (_:Option FA)=>retP [(4,none)] (RV.pure (.sl (ens (padd (pv p) (pv q))))) ex s)=Post;have vp:=yaw p;have vq:=yaw q;have s1:=yax sp;have s2:=yax sq;have l1:=yay p;have l2:=yay q;refine MR.gseq ?_;simp[go_sem];refine MR.gseq' (MR.greg (MIns.cons (zns fun r=>?_)));refine zff [[8]] ?_;simp[go_sem];refine MR.gseq' (MR.gseq ?_);simp[go_sem];refine zaa (zjo p (sp.mono (by omega)) (by omega)) rfl ?_;simp[go_sem];refine zaa (zjo q (sq.mono (by omega)) (by omega)) rfl ?_;simp[go_sem];refine zcl (z6b (pv p) (pv q) (by omega)) (by simp[go_sem]) ⟨zdx _ _ rfl,by decide,by simp[ens,LIM];omega⟩ _ rfl ?_;cases hfl:(ens (pv p++pv q)).all PV.flat
 ·simp[go_sem,killAll];subst hP;refine z3x r (pv p) (pv q) n vp vq s1 s2 hn1 hn (by omega) (by omega) ?_;exact Weak.to [5,14,15,16] [((14,0),1)] (by simp[paS,mkSt,go_sem])
 ·simp[go_sem];subst hP;refine z3x r (pv p) (pv q) n vp vq s1 s2 hn1 hn (by omega) (by omega) ?_;exact Weak.to [5,14,15,16] [((14,0),1)] (by simp[paS,mkSt,go_sem])
end Go.Ab
namespace Go.Ab
open Enc (enc)
attribute [local go_sem] zal Opd.slots
theorem GRat.sm.monoR{x:GRat}{m n:Nat}(h:x.sm m)(k:m<=n):x.sm n:=⟨ymm h.1 k,ymm h.2 k⟩
theorem psm.monoR{p:List GMono}{m n:Nat}(h:psm p m)(k:m<=n):psm p n:=fun x hx=>(h x hx).monoR k
theorem GW.sm.mono{m n:Nat}(k:m<=n):∀ w:GW,w.sm m->w.sm n:=by
 refine GW.sm.ind fun v hv ih=>?_;cases v with
 | mk q c i s p ps=>exact .mk (hv.q.monoR k) (hv.poly.monoR k) (ymm hv.len k) (ymm hv.plen k) ih
theorem GW.sm.one(k:Int){n:Nat}{q:GRat}{c:Int}{i:Bool}{s:UInt64}{p:List GMono}(hq:q.sm n)(hp:psm p n)(hl:p.length<=n):(GW.mk q c i s p []).sm n:=.mk hq hp hl (by simp) (by simp)
theorem zne(n:Nat):psm [] n:=by intro m hm;simp at hm
theorem zxz{k:Int}{v w:GW}{m n:Nat}(hv:v.sm m)(hw:w.sm n)(cv:v.chk ⟨k,[]⟩)(cw:w.chk ⟨k,[]⟩)(hm:1<=m)(hn:1<=n):(zap k v w).sm (m+n+1):=by
 unfold zap;have hv':=hv.mono (show m<=m+n+1 by omega);have hw':=hw.mono (show n<=m+n+1 by omega);split
 ·exact .one 0 (zkn hv.q hw.q hm hn) (zne _) (by simp)
 ·split
  ·split
   ·exact hw'
   ·exact hv'
  ·split
   ·split
    ·exact hw'
    ·exact hv'
   ·split
    ·exact .one 0 (zg6 _) (zne _) (by simp)
    ·exact .one 0 (zg6 _) (yc7 (zl4 cv) (zl4 cw) hv.poly hw.poly hm hn) (by have:=zmi v.poly w.poly;have:=hv.len;have:=hw.len;omega)
theorem zb5{a b:Nat}(h:a<=b):4294967296^a<=4294967296^b:=ynl (by omega) h
theorem z8g(v w:GW)(n:Nat)(hv:v.sm n)(hw:w.sm n)(hn:n<=2000)(hn1:1<=n)(cv:v.chk ⟨5,[]⟩)(cw:w.chk ⟨5,[]⟩):Sp P F.aa [enc (⟨5,[]⟩:GRing),enc v,enc w] (.pure (enc (zap 5 v w))):=by
 have pv:=zl4 cv;have pw:=zl4 cw;have h1:=zme pv hv.poly hn1 (zfc w.poly);have h2:=zme pw hw.poly hn1 (zfc v.poly);rw[ynd (pden w.poly)]at h2;have hl1:=za0 pv;have hl2:=za0 pw;have d1:=znh hv.poly hn1;have d2:=znh hw.poly hn1;have hD:pden v.poly*pden w.poly<4294967296^(434*n+2):=by refine ymp (yo2 d1 d2) ?_;rw[<- Nat.pow_add];refine zb5 ?_;have e1:n*v.poly.length<=n*216:=yo5 _ hl1;have e2:n*w.poly.length<=n*216:=yo5 _ hl2;omega
 have hB:4294967296^n*(pden v.poly*pden w.poly)<4294967296^(435*n+2):=by
  have:435*n+2=n+(434*n+2):=by omega
  rw[this,ymt];exact Nat.mul_lt_mul_of_pos_left hD (ynj (by omega))
 have hD0:pden v.poly*pden w.poly≠0:=yoj (zfc _) (zfc _);have hD':=ymp hD (zb5 (show 434*n+2<=1048576 by omega));have hB':=ymp (zmz _ _ _ hB hB) (zb5 (show 435*n+2+1<=1048576 by omega));exact z3j v w (hv.mono (by omega)) (hw.mono (by omega)) cv cw _ _ _ h1 h2 hD0 hD' hB'
theorem zx6(k:Int)(hk:1<=k/\k<=5)(v w:GW)(n:Nat)(hv:v.sm n)(hw:w.sm n)(hn:n<=2000)(hn1:1<=n)(cv:v.chk ⟨k,[]⟩)(cw:w.chk ⟨k,[]⟩) :
  Sp P F.aa [enc (⟨k,[]⟩:GRing),enc v,enc w] (.pure (enc (zap k v w))):=by
 have hv':=hv.mono (show n<=1048576 by omega);have hw':=hw.mono (show n<=1048576 by omega);have:k=1\/k=2\/k=3\/k=4\/k=5:=by omega
 rcases this with rfl|rfl|rfl|rfl|rfl
 ·exact z3n v w hv' hw' cv cw
 ·exact z3m v w hv' hw' cv cw
 ·exact z3l v w hv' hw' cv cw
 ·exact z3k v w hv' hw' cv cw
 ·exact z8g v w n hv hw hn hn1 cv cw
def zcx:List Int->List GW->List GW->List GW
 | k::ks,v::vs,w::ws=>zap k v w::zcx ks vs ws
 | _,_,_=>[]
def GRing.plus(r:GRing)(v w:GW):GW:=if r.kind=6 then .mk gr0 0 false 0 [] (zcx r.parts v.parts w.parts)else zap r.kind v w
theorem zbb:∀ {ks:List Int} {vs ws:List GW},vs.length=ks.length->ws.length=ks.length->(zcx ks vs ws).length=ks.length
 | [],vs,ws,_,_=>by simp[zcx]
 | k::ks,[],ws,h,_=>by simp at h
 | k::ks,v::vs,[],_,h=>by simp at h
 | k::ks,v::vs,w::ws,h1,h2=>by simp[zcx,zbb (ks:=ks) (vs:=vs) (ws:=ws) (by simpa using h1) (by simpa using h2)]
theorem zbl:∀ {ks:List Int} {vs ws:List GW} {i:Nat} (h:i<ks.length) (h1:i<vs.length) (h2:i<ws.length) (h3:i<(zcx ks vs ws).length),(zcx ks vs ws)[i]=zap ks[i] vs[i] ws[i]
 | k::ks,v::vs,w::ws,0,_,_,_,_=>by simp[zcx]
 | k::ks,v::vs,w::ws,i+1,h,h1,h2,h3=>by simp only[zcx,List.getElem_cons_succ];exact zbl (by simpa using h) (by simpa using h1) (by simpa using h2) (by simpa[zcx]using h3)
theorem z3i(r:GRing)(v w:GW)(hv:v.sm 1048576)(hw:w.sm 1048576)(cv:v.chk r)(cw:w.chk r)(h6:r.kind=6)
  (hpart:∀ i (h:i<r.parts.length) (h1:i<v.parts.length) (h2:i<w.parts.length),Sp P F.aa [enc (⟨r.parts[i],[]⟩:GRing),enc v.parts[i],enc w.parts[i]] (.pure (enc (zap r.parts[i] v.parts[i] w.parts[i])))) :
  Sp P F.aa [enc r,enc v,enc w] (.pure (enc (r.plus v w))):=by
 have hr0:=cv.1;have hp:=GRing.ok_parts hr0 h6;have t1:v.tk r=v:=ym0 cv;have t2:w.tk r=w:=ym0 cw;have k1:=zaz r v (hv.mono (by omega));have k2:=zaz r w (hw.mono (by omega));rw[t1]at k1;rw[t2]at k2;have lv:=(cv.2.2 h6).1;have lw:=(cw.2.2 h6).1;have lp:(zcx r.parts v.parts w.parts).length=r.parts.length:=zbb lv lw;refine Sp.vz c.aa fun _=>?_;simp[g.aa,go_sem];refine zaa (zax r) rfl ?_;simp[hr0,go_sem];refine zab k1 ?_;simp[go_sem];refine zab k2 ?_;simp[go_sem,h6]
 refine zai (S:=fun k:Nat=>mkSt [(3,.ptr 1 0 0 0),(4,.ptr 2 0 0 0),(5,.ptr 3 0 0 0),(6,.ptr 4 0 0 0),(7,.ptr 5 0 0 0),(8,.p (.int .i64 k))]
   [(1,⟨2,[.p (enc r)]⟩),(2,⟨8,[.p (enc v)]⟩),(3,⟨8,[.p (enc w)]⟩),(4,⟨8,[.agg [.p (.bool false),.nil,.nil,.p (.int .i64 0),.p (.bool false),.p (.int .u64 0),.nil,.nil]]⟩),
    (5,⟨8,[.agg [.p (.bool false),.nil,.nil,.p (.int .i64 0),.p (.bool false),.p (.int .u64 0),.nil,.own 6 0 0 k]]⟩),(6,⟨8,avs ((zcx r.parts v.parts w.parts).take k)⟩)])
  (I:=fun k=>k<=r.parts.length) (m:=fun k=>r.parts.length - k) 0
  ((Weak.nilCell (s0:=7) (g0:=0) (i:=7) (s:=77) (sz:=8) rfl).trans (Weak.to [3,4,5,6,7,8] [((3,0),1),((4,0),2),((5,0),3),((6,0),4),((7,0),5),((77,0),6)] (by simp[go_sem,h6]))) (by omega) ?_
 rintro k h1 R hn' hr hx;have e1:=i64s k (by omega);simp[g.pi,mkSt,go_sem];refine⟨fun hk=>?_,fun hk=>hx _ _ ?_⟩
 ·have hkv:k<v.parts.length:=by omega
  have hkw:k<w.parts.length:=by omega
  have hpk:=hp.2.2 _ (ym3 hk);refine zaa (zjr r k hk) rfl ?_;simp[go_sem];refine zae hkv ?_
  try simp[go_sem]
  refine zae hkw ?_
  try simp[go_sem]
  refine zab (hpart k hk hkv hkw) ?_;have hkL:k<(zcx r.parts v.parts w.parts).length:=by omega
  have hts:avs ((zcx r.parts v.parts w.parts).take (k+1))=avs ((zcx r.parts v.parts w.parts).take k)++[.p (enc (zap r.parts[k] v.parts[k] w.parts[k]))]:=by rw[ymr hkL,zcs,zbl hk hkv hkw hkL];rfl
  simp[e1,go_sem];exact⟨⟨by omega,by omega⟩,hn' (k+1) _ (Weak.to [3,4,5,6,7,8] [((1,0),1),((2,0),2),((3,0),3),((4,0),4),((5,0),5),((97,0),6)] (by simp[go_sem,hts])) (by omega) (by omega)⟩
 ·have hk':k=(zcx r.parts v.parts w.parts).length:=by omega
  have hpl:r.plus v w=.mk gr0 0 false 0 [] (zcx r.parts v.parts w.parts):=by simp[GRing.plus,h6]
  rw[hpl];subst hk';simp[go_sem]
theorem zx5(r:GRing)(v w:GW)(n:Nat)(hv:v.sm n)(hw:w.sm n)(hn:n<=2000)(hn1:1<=n)(cv:v.chk r)(cw:w.chk r):Sp P F.aa [enc r,enc v,enc w] (.pure (enc (r.plus v w))):=by
 have hr0:=cv.1;by_cases h6:r.kind=6;rotate_left
 ·have hk:=GRing.ok_kind hr0 h6;have he:r=⟨r.kind,[]⟩:=by rw[<- hk.2.2]
  have h1:r.plus v w=zap r.kind v w:=by simp[GRing.plus,h6]
  rw[h1,he];rw[he]at cv cw;exact zx6 r.kind ⟨hk.1,hk.2.1⟩ v w n hv hw hn hn1 cv cw
 exact z3i r v w (hv.mono (by omega)) (hw.mono (by omega)) cv cw h6 fun i h h1 h2 =>
  zx6 r.parts[i] ((GRing.ok_parts hr0 h6).2.2 _ (ym3 h)) v.parts[i] w.parts[i] n (hv.parts _ (ym3 h1)) (hw.parts _ (ym3 h2)) hn hn1 (zdh cv h6 h h1) (zdh cw h6 h h2)
end Go.Ab
namespace Go.Ab
open Enc (enc)
theorem z29(v w:GW)(n:Nat)(hv:v.sm n)(hw:w.sm n)(hn:n<=400000)(hn1:1<=n)(pv':PVal v.poly)(pw:PVal w.poly):Sp P F.eq [enc v,enc w] (.pure (enc (zap 5 v w))):=by
 have h1:v.poly.length<=100000:=by have:=za0 pv';omega
 have h2:w.poly.length<=100000:=by have:=za0 pw;omega
 have k:=z0b v.poly w.poly n hv.poly hw.poly hn1 hn h1 h2;rw[zoz pv',zoz pw]at k;refine Sp.vz c.eq fun _=>?_;simp[g.eq,go_sem];refine zaa k rfl ?_;simp[go_sem,zap,gr0]
theorem zx4(k:Int)(hk:1<=k/\k<=5)(v w:GW)(n:Nat)(hv:v.sm n)(hw:w.sm n)(hn:n<=400000)(hn1:1<=n)(sv:v.si k)(sw:w.si k):Sp P (kF3 k) (enc v::enc w::kC3 k) (.pure (enc (zap k v w))):=by
 have:k=1\/k=2\/k=3\/k=4\/k=5:=by omega
 have hv':=hv.mono (show n<=1048576 by omega);have hw':=hw.mono (show n<=1048576 by omega);rcases this with rfl|rfl|rfl|rfl|rfl
 ·exact z79 v w hv' hw'
 ·exact z93 v w sv sw
 ·exact z9g v w hv' hw' sv sw
 ·exact z7t v w
 ·exact z29 v w n hv hw (by omega) hn1 (sv.2.2.2.2.2.2.2.2 rfl) (sw.2.2.2.2.2.2.2.2 rfl)
theorem ycx(r:GRing)(v w:GW)(n:Nat)(hv:v.sm n)(hw:w.sm n)(hn:n<=400000)(hn1:1<=n)(cv:v.chk r)(cw:w.chk r)(h6:r.kind≠6):Sp P F.an [enc r,enc v,enc w] (.pure (enc (zap r.kind v w))):=by have hr0:=cv.1;have hk:=GRing.ok_kind hr0 h6;have t1:v.tk r=v:=ym0 cv;have t2:w.tk r=w:=ym0 cw;have k1:=zd1 r v (hv.mono (by omega));have k2:=zd1 r w (hw.mono (by omega));rw[t1]at k1;rw[t2]at k2;refine Sp.vz c.an fun _=>?_;simp[g.an,go_sem];refine zaa (zex r) rfl ?_;simp[hr0,go_sem];refine zab k1 ?_;simp[go_sem];refine zab k2 ?_;simp[go_sem,h6];obtain⟨f5,f6,f7,f8,c5,c8,hA⟩:=zet r.kind ⟨hk.1,hk.2.1⟩;refine zaa (zk0 r.kind ⟨hk.1,hk.2.1⟩) rfl ?_;simp[hA,go_sem];refine zaa (zx4 r.kind ⟨hk.1,hk.2.1⟩ v w n hv hw hn hn1 (cv.2.1 h6) (cw.2.1 h6)) (zb7 (by simp[go_sem]) (zb7 (by simp[go_sem]) (zgs _ _))) ?_;simp[go_sem]
theorem z3h(k:Int)(hk:1<=k/\k<=5)(v w:GW)(i n:Nat)(iv:i<v.parts.length)(iw:i<w.parts.length)(hi:i<=3)(hv:v.parts[i].sm n)(hw:w.parts[i].sm n)(hn:n<=400000)(hn1:1<=n)(sv:v.parts[i].si k)(sw:w.parts[i].si k) :
  Sp P F.gh [zn1 k,.int .i64 i,.ref (enc v),.ref (enc w)] (.pure (enc (zap k v.parts[i] w.parts[i]))):=by
 obtain⟨f5,f6,f7,f8,c5,c8,hA⟩:=zet k hk;rw[hA];refine Sp.of_vmW c.gh (by simp) ((Weak.openRef (t:=2) (v:=enc v) (n:=8) (by simp[go_sem]) (by simp[go_sem])).trans (Weak.openRef (t:=3) (v:=enc w) (n:=8) (by simp[go_sem]) (by simp[go_sem]))) ?_;simp[g.gh,go_sem];refine zae iv ?_;refine zae iw ?_;refine zaa (zx4 k hk v.parts[i] w.parts[i] n hv hw hn hn1 sv sw) (zb7 (by simp[go_sem]) (zb7 (by simp[go_sem]) (zgs _ _))) ?_;simp[go_sem]
theorem zjc(st:St)(s g ix off:Nat):toPV st 5 (.ptr s g ix off)=if ix=0/\off=0 then match st.obj s g with
  | some o=>match o.es with
   | [e]=>(toPV st 4 e).map .ref
   | _=>none
  | none=>none
  else none:=rfl
theorem zqy(st:St)(v:PV):toPV st 4 (.p v)=some v:=rfl
theorem ztw(r:GRing)(v w:GW)(n:Nat)(hv:v.sm n)(hw:w.sm n)(hn:n<=400000)(hn1:1<=n)(cv:v.chk r)(cw:w.chk r):Sp P F.an [enc r,enc v,enc w] (.pure (enc (r.plus v w))):=by
 have hr0:=cv.1;by_cases h6:r.kind=6;rotate_left
 ·have h1:r.plus v w=zap r.kind v w:=by simp[GRing.plus,h6]
  rw[h1];exact ycx r v w n hv hw hn hn1 cv cw h6
 have hp:=GRing.ok_parts hr0 h6;have t1:v.tk r=v:=ym0 cv;have t2:w.tk r=w:=ym0 cw;have k1:=zd1 r v (hv.mono (by omega));have k2:=zd1 r w (hw.mono (by omega));rw[t1]at k1;rw[t2]at k2;have lv:=(cv.2.2 h6).1;have lw:=(cw.2.2 h6).1;have lp:(zcx r.parts v.parts w.parts).length=r.parts.length:=zbb lv lw;refine Sp.vz c.an fun _=>?_;simp[g.an,go_sem];refine zaa (zex r) rfl ?_;simp[hr0,go_sem];refine zab k1 ?_;simp[go_sem];refine zab k2 ?_;simp[go_sem,h6];refine zaa (zwn r hp.2.2 hp.2.1 F.gh [.ref (enc v),.ref (enc w)] (zcx r.parts v.parts w.parts) lp fun i h h'=>?_) ?_ ?_
 ·rw[zbl h (by omega) (by omega) h'];exact z3h r.parts[i] (hp.2.2 _ (ym3 h)) v w i n (by omega) (by omega) (by omega) (hv.parts _ (ym3 _)) (hw.parts _ (ym3 _)) hn hn1 ((cv.2.2 h6).2.2 i h (by omega)) ((cw.2.2 h6).2.2 i h (by omega))
 ·simp[go_sem,zjc,zqy,h6]
 simp[go_sem,GRing.plus,h6]
theorem zmh(r:GRing)(v w:GW)(n:Nat)(hv:v.sm n)(hw:w.sm n)(hn:n<=2000)(hn1:1<=n)(cv:v.chk r)(cw:w.chk r):Sp P F.an [enc r,enc v,enc w] (.pure (enc (r.plus v w))):=ztw r v w n hv hw (by omega) hn1 cv cw
theorem zh4{k:Int}(hk:1<=k/\k<=5):(zb3 k).si k:=by
 have:k=1\/k=2\/k=3\/k=4\/k=5:=by omega
 have h1:=zoa;rcases this with rfl|rfl|rfl|rfl|rfl
 ·rw[si1];exact⟨rfl,rfl,rfl,rfl,rfl,h1⟩
 ·rw[si2];exact⟨rfl,rfl,rfl,rfl,Int.le_refl 0,by simp[zb3,GW.cost],fun _=>rfl⟩
 ·rw[si3];exact⟨rfl,rfl,rfl,rfl,rfl,h1,by show 0<=gr0.v;rw[zf9];decide,by show gr0.v<=1;rw[zf9];decide⟩
 ·rw[si4];exact⟨rfl,rfl,rfl,rfl,rfl⟩
 ·rw[si5];exact⟨rfl,rfl,rfl,rfl,rfl,zhp⟩
theorem zb0{k:Int}(hk:1<=k/\k<=5){v w:GW}(hv:v.si k)(hw:w.si k):(zap k v w).si k:=by
 have:k=1\/k=2\/k=3\/k=4\/k=5:=by omega
 rcases this with rfl|rfl|rfl|rfl|rfl
 ·rw[si1];exact⟨rfl,rfl,rfl,rfl,rfl,zbf _⟩
 ·unfold zap;simp only[ym1 (show ¬ (2:Int)=1 by decide),ym0];split<;>assumption
 ·unfold zap;simp only[ym1 (show ¬ (3:Int)=1 by decide),ym1 (show ¬ (3:Int)=2 by decide),ym0];split<;>assumption
 ·rw[si4];exact⟨rfl,rfl,rfl,rfl,rfl⟩
 ·rw[si5];exact⟨rfl,rfl,rfl,rfl,rfl,zcf _ (si_p hv)⟩
theorem zpv{k:Int}(hk:1<=k/\k<=5){v:GW}(hv:v.si k):zap k v (zb3 k)=v:=by
 have:k=1\/k=2\/k=3\/k=4\/k=5:=by omega
 cases v with
 | mk q c i s p ps =>
 rcases this with rfl|rfl|rfl|rfl|rfl
 ·obtain⟨h1,h2,h3,h4,h5,h6⟩:=si1.1 hv;simp only[GW.parts_mk,GW.inf_mk,GW.cost_mk,GW.set_mk,GW.poly_mk,GW.q_mk]at h1 h2 h3 h4 h5 h6;subst h1 h2 h3 h4 h5;simp[zap,zb3,GW.q_mk,zf9,yn5,zf0 h6]
 ·obtain⟨h1,h2,h3,h4,h5,h6,h7⟩:=si2.1 hv;simp only[GW.parts_mk,GW.inf_mk,GW.cost_mk,GW.set_mk,GW.poly_mk,GW.q_mk]at h1 h2 h3 h4 h5 h6 h7;subst h1 h2 h3 h4;cases i
  ·simp[zap,zb3,GW.inf_mk]
  ·have:=h7 rfl;subst this;simp[zap,zb3,GW.inf_mk]
 ·obtain⟨h1,h2,h3,h4,h5,h6,h7,h8⟩:=si3.1 hv;simp only[GW.parts_mk,GW.inf_mk,GW.cost_mk,GW.set_mk,GW.poly_mk,GW.q_mk]at h1 h2 h3 h4 h5 h6 h7;have:¬ q.v<0:=yot.2 h7;simp[zap,zb3,GW.q_mk,zf9,this]
 ·obtain⟨h1,h2,h3,h4,h5⟩:=si4.1 hv;simp only[GW.parts_mk,GW.inf_mk,GW.cost_mk,GW.set_mk,GW.poly_mk,GW.q_mk]at h1 h2 h3 h4 h5;subst h1 h2 h3 h4 h5;simp[zap,zb3,GW.set_mk]
 ·obtain⟨h1,h2,h3,h4,h5,h6⟩:=si5.1 hv;simp only[GW.parts_mk,GW.inf_mk,GW.cost_mk,GW.set_mk,GW.poly_mk,GW.q_mk]at h1 h2 h3 h4 h5 h6;subst h1 h2 h3 h4 h5;simp[zap,zb3,GW.poly_mk,padd]
theorem zbd{r:GRing}(h:r.ok=true):r.zero.chk r:=by
 by_cases h6:r.kind=6
 ·refine⟨h,fun h'=>absurd h6 h',fun _=>?_⟩;have hp:=GRing.ok_parts h h6;simp[GRing.zero,h,h6,GW.parts_mk];exact fun i hi _=>zh4 (hp.2.2 _ (ym3 hi))
 ·have hk:=GRing.ok_kind h h6;refine⟨h,fun _=>?_,fun h'=>absurd h' h6⟩;have:r.zero=zb3 r.kind:=by simp[GRing.zero,h,zb3,hk.2.2]
  rw[this];exact zh4 ⟨hk.1,hk.2.1⟩
theorem z60(k:Int)(n:Nat):(zb3 k).sm n:=.one k (zg6 n) (zne n) (by simp)
theorem zu2{r:GRing}{n:Nat}(h:r.ok=true)(hn:3<=n):r.zero.sm n:=by
 have:r.zero=.mk gr0 0 (decide (r.kind=2)) 0 [] (r.parts.map zb3):=by simp[GRing.zero,h]
 rw[this];have hl:r.parts.length<=3:=by
  by_cases h6:r.kind=6
  ·exact(GRing.ok_parts h h6).2.1
  ·simp[(GRing.ok_kind h h6).2.2]
 refine .mk (zg6 n) (zne n) (by simp) (by simp;omega) fun w hw=>?_;obtain⟨k,_,rfl⟩:=ym6.1 hw;exact z60 k n
theorem zbu{r:GRing}{v w:GW}(hv:v.chk r)(hw:w.chk r):(r.plus v w).chk r:=by
 by_cases h6:r.kind=6
 ·have hp:=GRing.ok_parts hv.1 h6;have lv:=(hv.2.2 h6).1;have lw:=(hw.2.2 h6).1;refine⟨hv.1,fun h=>absurd h6 h,fun _=>?_⟩;have e:r.plus v w=.mk gr0 0 false 0 [] (zcx r.parts v.parts w.parts):=by simp[GRing.plus,h6]
  rw[e];refine⟨zbb lv lw,rfl,fun i h h'=>?_⟩;simp only[GW.parts_mk]at h' ⊢;rw[zbl h (by omega) (by omega) h'];exact zb0 (hp.2.2 _ (ym3 h)) ((hv.2.2 h6).2.2 i h (by omega)) ((hw.2.2 h6).2.2 i h (by omega))
 ·have hk:=GRing.ok_kind hv.1 h6;have e:r.plus v w=zap r.kind v w:=by simp[GRing.plus,h6]
  rw[e];exact⟨hv.1,fun _=>zb0 ⟨hk.1,hk.2.1⟩ (hv.2.1 h6) (hw.2.1 h6),fun h=>absurd h h6⟩
theorem zc7{r:GRing}{v:GW}(hv:v.chk r):r.plus v r.zero=v:=by
 by_cases h6:r.kind=6
 ·have hp:=GRing.ok_parts hv.1 h6;obtain⟨lv,ev,sv⟩:=hv.2.2 h6;have e:r.plus v r.zero=.mk gr0 0 false 0 [] (zcx r.parts v.parts r.zero.parts):=by simp[GRing.plus,h6]
  have ez:r.zero.parts=r.parts.map zb3:=by simp[GRing.zero,hv.1,GW.parts_mk]
  rw[e,ez,ev];simp only[GW.parts_mk]
  congr 1
  refine ypf (by rw[zbb lv (by simp),lv]) fun i h1 h2=>?_;have h3:i<r.parts.length:=by rw[<- lv];exact h2
  rw[zbl h3 h2 (by simpa using h3) h1];simp only[List.getElem_map];exact zpv (hp.2.2 _ (List.getElem_mem h3)) (sv i h3 h2)
 ·have hk:=GRing.ok_kind hv.1 h6;have e:r.plus v r.zero=zap r.kind v r.zero:=by simp[GRing.plus,h6]
  have ez:r.zero=zb3 r.kind:=by simp[GRing.zero,hv.1,zb3,hk.2.2]
  rw[e,ez];exact zpv ⟨hk.1,hk.2.1⟩ (hv.2.1 h6)
theorem z3e{r:GRing}{v w:GW}{m n:Nat}(sv:v.sm m)(sw:w.sm n)(hv:v.chk r)(hw:w.chk r)(hm:1<=m)(hn:1<=n):(r.plus v w).sm (m+n+1):=by
 by_cases h6:r.kind=6
 ·have hp:=GRing.ok_parts hv.1 h6;have lv:=(hv.2.2 h6).1;have lw:=(hw.2.2 h6).1;have e:r.plus v w=.mk gr0 0 false 0 [] (zcx r.parts v.parts w.parts):=by simp[GRing.plus,h6]
  have hl:=zbb (ks:=r.parts) (vs:=v.parts) (ws:=w.parts) lv lw;rw[e];refine .tup (by rw[hl,<- lv];have:=sv.plen;omega) fun x hx=>?_;obtain⟨i,hi,rfl⟩:=yo7.1 hx;have h3:i<r.parts.length:=by omega
  rw[zbl h3 (by omega) (by omega) hi];exact zxz (sv.parts _ (ym3 _)) (sw.parts _ (ym3 _)) (zdh hv h6 h3 (by omega)) (zdh hw h6 h3 (by omega)) hm hn
 ·have hk:=GRing.ok_kind hv.1 h6;have e:r.plus v w=zap r.kind v w:=by simp[GRing.plus,h6]
  have er:r=⟨r.kind,[]⟩:=by rw[<- hk.2.2]
  rw[e];rw[er]at hv hw;exact zxz sv sw hv hw hm hn
theorem z1v{r:GRing}{w:GW}(h:w.chk r):w.tk r=w:=ym0 h
end Go.Ab
namespace Go.Ab
open Enc (enc)
attribute [local go_sem] zal Opd.slots
theorem z1z(v w:GW)(n:Nat)(hv:v.sm n)(hw:w.sm n)(hn:n<=1000)(hn1:1<=n)(cv:v.chk ⟨5,[]⟩)(cw:w.chk ⟨5,[]⟩):Sp P F.ae [enc (⟨5,[]⟩:GRing),enc v,enc w] (.pure (enc (zam 5 v w))):=by
 have pv:=zl4 cv;have pw:=zl4 cw;have h1:=zme (k:=1) pv hv.poly hn1 (by omega);have h2:=zme (k:=1) pw hw.poly hn1 (by omega);rw[Nat.mul_one]at h1 h2;have hl1:=za0 pv;have hl2:=za0 pw;have d1:=znh hv.poly hn1;have d2:=znh hw.poly hn1;have hD:pden v.poly*pden w.poly<4294967296^(434*n+2):=by refine ymp (yo2 d1 d2) ?_;rw[<- Nat.pow_add];refine zb5 ?_;have e1:n*v.poly.length<=n*216:=yo5 _ hl1;have e2:n*w.poly.length<=n*216:=yo5 _ hl2;omega
 have hB:46656*(4294967296^n*pden v.poly*(4294967296^n*pden w.poly))<4294967296^(436*n+3):=by
  have e:46656*(4294967296^n*pden v.poly*(4294967296^n*pden w.poly))=46656*(4294967296^n*4294967296^n*(pden v.poly*pden w.poly)):=by rw[Nat.mul_mul_mul_comm]
  have e2:436*n+3=1+(n+n+(434*n+2)):=by omega
  rw[e,e2,ymt,ymt _ (n+n),ymt _ n n];refine yo2 (by decide) ?_;exact Nat.mul_lt_mul_of_pos_left hD (yoz (ynj (by omega)) (ynj (by omega)))
 have hD':=ymp hD (zb5 (show 434*n+2<=1048576 by omega));have hB':=ymp hB (zb5 (show 436*n+3<=1048576 by omega));exact zxe v w (hv.mono (by omega)) (hw.mono (by omega)) cv cw _ _ _ _ h1 h2 (zfc _) (zfc _) hD' hB' (hv.poly.monoR (by omega)) (hw.poly.monoR (by omega))
theorem zs7(k:Int)(hk:1<=k/\k<=5)(v w:GW)(n:Nat)(hv:v.sm n)(hw:w.sm n)(hn:n<=1000)(hn1:1<=n)(cv:v.chk ⟨k,[]⟩)(cw:w.chk ⟨k,[]⟩) :
  Sp P F.ae [enc (⟨k,[]⟩:GRing),enc v,enc w] (.pure (enc (zam k v w))):=by
 have hv':=hv.mono (show n<=1048576 by omega);have hw':=hw.mono (show n<=1048576 by omega);have:k=1\/k=2\/k=3\/k=4\/k=5:=by omega
 rcases this with rfl|rfl|rfl|rfl|rfl
 ·exact zxi v w hv' hw' cv cw
 ·exact zxh v w hv' hw' cv cw
 ·exact zxg v w hv' hw' cv cw
 ·exact zxf v w hv' hw' cv cw
 ·exact z1z v w n hv hw hn hn1 cv cw
def zbx:List Int->List GW->List GW->List GW
 | k::ks,v::vs,w::ws=>zam k v w::zbx ks vs ws
 | _,_,_=>[]
def GRing.times(r:GRing)(v w:GW):GW:=if r.kind=6 then .mk gr0 0 false 0 [] (zbx r.parts v.parts w.parts)else zam r.kind v w
theorem zay:∀ {ks:List Int} {vs ws:List GW},vs.length=ks.length->ws.length=ks.length->(zbx ks vs ws).length=ks.length
 | [],vs,ws,_,_=>by simp[zbx]
 | k::ks,[],ws,h,_=>by simp at h
 | k::ks,v::vs,[],_,h=>by simp at h
 | k::ks,v::vs,w::ws,h1,h2=>by simp[zbx,zay (ks:=ks) (vs:=vs) (ws:=ws) (by simpa using h1) (by simpa using h2)]
theorem za6:∀ {ks:List Int} {vs ws:List GW} {i:Nat} (h:i<ks.length) (h1:i<vs.length) (h2:i<ws.length) (h3:i<(zbx ks vs ws).length),(zbx ks vs ws)[i]=zam ks[i] vs[i] ws[i]
 | k::ks,v::vs,w::ws,0,_,_,_,_=>by simp[zbx]
 | k::ks,v::vs,w::ws,i+1,h,h1,h2,h3=>by simp only[zbx,List.getElem_cons_succ];exact za6 (by simpa using h) (by simpa using h1) (by simpa using h2) (by simpa[zbx]using h3)
theorem zxd(r:GRing)(v w:GW)(hv:v.sm 1048576)(hw:w.sm 1048576)(cv:v.chk r)(cw:w.chk r)(h6:r.kind=6)
  (hpart:∀ i (h:i<r.parts.length) (h1:i<v.parts.length) (h2:i<w.parts.length),Sp P F.ae [enc (⟨r.parts[i],[]⟩:GRing),enc v.parts[i],enc w.parts[i]] (.pure (enc (zam r.parts[i] v.parts[i] w.parts[i])))) :
  Sp P F.ae [enc r,enc v,enc w] (.pure (enc (r.times v w))):=by
 have hr0:=cv.1;have hp:=GRing.ok_parts hr0 h6;have t1:v.tk r=v:=ym0 cv;have t2:w.tk r=w:=ym0 cw;have k1:=zaz r v (hv.mono (by omega));have k2:=zaz r w (hw.mono (by omega));rw[t1]at k1;rw[t2]at k2;have lv:=(cv.2.2 h6).1;have lw:=(cw.2.2 h6).1;have lp:(zbx r.parts v.parts w.parts).length=r.parts.length:=zay lv lw;refine Sp.vz c.ae fun _=>?_;simp[g.ae,go_sem];refine zaa (zax r) rfl ?_;simp[hr0,go_sem];refine zab k1 ?_;simp[go_sem];refine zab k2 ?_;simp[go_sem,h6]
 refine zai (S:=fun k:Nat=>mkSt [(3,.ptr 1 0 0 0),(4,.ptr 2 0 0 0),(5,.ptr 3 0 0 0),(6,.ptr 4 0 0 0),(7,.ptr 5 0 0 0),(8,.p (.int .i64 k))]
   [(1,⟨2,[.p (enc r)]⟩),(2,⟨8,[.p (enc v)]⟩),(3,⟨8,[.p (enc w)]⟩),(4,⟨8,[.agg [.p (.bool false),.nil,.nil,.p (.int .i64 0),.p (.bool false),.p (.int .u64 0),.nil,.nil]]⟩),
    (5,⟨8,[.agg [.p (.bool false),.nil,.nil,.p (.int .i64 0),.p (.bool false),.p (.int .u64 0),.nil,.own 6 0 0 k]]⟩),(6,⟨8,avs ((zbx r.parts v.parts w.parts).take k)⟩)])
  (I:=fun k=>k<=r.parts.length) (m:=fun k=>r.parts.length - k) 0
  ((Weak.nilCell (s0:=7) (g0:=0) (i:=7) (s:=77) (sz:=8) rfl).trans (Weak.to [3,4,5,6,7,8] [((3,0),1),((4,0),2),((5,0),3),((6,0),4),((7,0),5),((77,0),6)] (by simp[go_sem,h6]))) (by omega) ?_
 rintro k h1 R hn' hr hx;have e1:=i64s k (by omega);simp[g.pj,mkSt,go_sem];refine⟨fun hk=>?_,fun hk=>hx _ _ ?_⟩
 ·have hkv:k<v.parts.length:=by omega
  have hkw:k<w.parts.length:=by omega
  have hpk:=hp.2.2 _ (ym3 hk);refine zaa (zjr r k hk) rfl ?_;simp[go_sem];refine zae hkv ?_
  try simp[go_sem]
  refine zae hkw ?_
  try simp[go_sem]
  refine zab (hpart k hk hkv hkw) ?_;have hkL:k<(zbx r.parts v.parts w.parts).length:=by omega
  have hts:avs ((zbx r.parts v.parts w.parts).take (k+1))=avs ((zbx r.parts v.parts w.parts).take k)++[.p (enc (zam r.parts[k] v.parts[k] w.parts[k]))]:=by rw[ymr hkL,zcs,za6 hk hkv hkw hkL];rfl
  simp[e1,go_sem];exact⟨⟨by omega,by omega⟩,hn' (k+1) _ (Weak.to [3,4,5,6,7,8] [((1,0),1),((2,0),2),((3,0),3),((4,0),4),((5,0),5),((94,0),6)] (by simp[go_sem,hts])) (by omega) (by omega)⟩
 ·have hk':k=(zbx r.parts v.parts w.parts).length:=by omega
  have hpl:r.times v w=.mk gr0 0 false 0 [] (zbx r.parts v.parts w.parts):=by simp[GRing.times,h6]
  rw[hpl];subst hk';simp[go_sem]
theorem z1x(r:GRing)(v w:GW)(n:Nat)(hv:v.sm n)(hw:w.sm n)(hn:n<=1000)(hn1:1<=n)(cv:v.chk r)(cw:w.chk r):Sp P F.ae [enc r,enc v,enc w] (.pure (enc (r.times v w))):=by
 have hr0:=cv.1;by_cases h6:r.kind=6;rotate_left
 ·have hk:=GRing.ok_kind hr0 h6;have he:r=⟨r.kind,[]⟩:=by rw[<- hk.2.2]
  have h1:r.times v w=zam r.kind v w:=by simp[GRing.times,h6]
  rw[h1,he];rw[he]at cv cw;exact zs7 r.kind ⟨hk.1,hk.2.1⟩ v w n hv hw hn hn1 cv cw
 exact zxd r v w (hv.mono (by omega)) (hw.mono (by omega)) cv cw h6 fun i h h1 h2 =>
  zs7 r.parts[i] ((GRing.ok_parts hr0 h6).2.2 _ (ym3 h)) v.parts[i] w.parts[i] n (hv.parts _ (ym3 h1)) (hw.parts _ (ym3 h2)) hn hn1 (zdh cv h6 h h1) (zdh cw h6 h h2)
end Go.Ab
