/- Lemmas for the law AmbiguityCounts, part 27. No conditions. -/
import Derived.Test.YtcemegnnejaahaaGreatDoorDP25
import Derived.Test.YtcemegnnejaahaaGreatDoorDP26
import Derived.Test.YtcemegnnejaahaaGreatDoorDP23
set_option maxRecDepth 100000
set_option maxHeartbeats 4000000
set_option linter.all false
namespace Go.Ab
open Enc (enc)
theorem ydh:z3z P F.ch 6:=sortK0
theorem yd0(m n:GMono):Sp P F.bj [enc m,enc n] (.pure (.int .i64 (n.e.cmp m.e))):=by refine Sp.vz c.bj fun _=>?_;simp[g.bj];refine zaa (zpx m.e n.e) rfl ?_;simp
theorem z2c:SpM P F.lm [.sl [],.int .i64 0,.int .i64 0,.fn F.bj []] 0 6 [] (.pure (.tup [])):=by refine SpM.of_vm c.lm (by simp) rfl rfl ?_;simp[g.lm];refine zhb fun R hn hr hx=>?_;simp[g.qx,g.qy];refine hx _ _ ?_;simp
theorem z1t(k:Int):SpM P F.ib [.sl [],.int .i64 0,.int .i64 0,.int .i64 k,.fn F.bj []] 0 6 [] (.pure (.tup [])):=by refine SpM.of_vm c.ib (by simp) rfl rfl ?_;simp[g.ib];refine zhb fun R hn hr hx=>?_;simp[g.qw];refine zfe z2c (by simp) rfl rfl (by simp) rfl rfl rfl rfl rfl (by simp) ?_;simp;exact hr _ (by simp)
theorem Ex.cmp_lex(x y:Ex):x.cmp y<0 ↔ x.a<y.a\/(x.a=y.a/\(x.b<y.b\/(x.b=y.b/\x.c<y.c))):=by
 unfold Ex.cmp
 repeat' split
 all_goals omega
def sD(x:PV):Prop:=∃ m:GMono,x=enc m
def sX:PV->Ex
 | .agg (.int _ a::.int _ b::.int _ c::_)=>⟨a,b,c⟩
 | _=>⟨0,0,0⟩
theorem z9h(m:GMono):sX (enc m)=m.e:=rfl
theorem Ex.ext'{x y:Ex}(h1:¬ x.cmp y<0)(h2:¬ y.cmp x<0):x=y:=by rw[Ex.cmp_lex]at h1 h2;cases x;cases y;simp only[Ex.mk.injEq]at *;omega
theorem z01(l l':List GMono)(hl:l.length<=1073741824)(hk:(l.map (·.e)).Nodup)(hp:l'.Perm l)(hs:l'.Pairwise fun x y=>y.e.cmp x.e<0):SpM P F.ch [.sl (ens l),.fn F.bj []] 0 6 (ens l') (.pure (.tup [])):=by
 have hfn:=zix c.ch;have hgn:=zix c.bj;cases l with
 | nil =>
  have:l'=[]:=List.Perm.eq_nil hp;subst this;refine SpM.of_vm c.ch (by simp) rfl rfl ?_;simp[g.ch];refine zaa z6x rfl ?_;simp;refine zfe (z1t 0) (by simp) rfl rfl (by simp) rfl rfl rfl rfl rfl (by simp) ?_;simp
 | cons m l =>
  have hnd:∀ x y:GMono,x∈m::l->y∈m::l->x.e=y.e->x=y:=fun x y hx hy he=>by obtain⟨i,hi⟩:=List.getElem?_of_mem hx;obtain⟨j,hj⟩:=List.getElem?_of_mem hy;obtain⟨i1,i2⟩:=List.getElem?_eq_some_iff.1 hi;obtain⟨j1,j2⟩:=List.getElem?_eq_some_iff.1 hj;have:i=j:=(List.getElem_inj (h₀ := by simpa using i1) (h₁ := by simpa using j1) hk).1 (by simp only[List.getElem_map,i2,j2,he]);subst this;rw[<- i2,<- j2]
  refine ydh.spM hfn (by decide) (D:=sD) (c:=fun x y=>(sX y).cmp (sX x)) hgn ?_ ?_ ?_ ?_ (by simp[-zat,ens]) (by simp only[ziz];omega) ?_ ?_ ?_
  ·rintro _ _ ⟨x,rfl⟩ ⟨y,rfl⟩;exact yd0 x y
  ·rintro _ ⟨x,rfl⟩;rw[Ex.cmp_lex];omega
  ·rintro _ _ _ ⟨x,rfl⟩ ⟨y,rfl⟩ ⟨z,rfl⟩ h1 h2;simp only[Ex.cmp_lex]at *;omega
  ·rintro _ _ _ ⟨x,rfl⟩ ⟨y,rfl⟩ ⟨z,rfl⟩ h1 h2;simp only[Ex.cmp_lex]at *;omega
  ·intro e he;obtain⟨x,_,rfl⟩:=yf6.1 he;exact⟨x,rfl⟩
  ·intro e he;exact zwj _ e he
  ·intro l0 h0 hs0;have hpe:(ens l').Perm (ens (m::l)):=hp.map _;refine List.Perm.eq_of_pairwise (le:=fun x y=>¬ (sX x).cmp (sX y)<0) (fun a b ha hb h1 h2=>?_) hs0 ?_ (h0.trans hpe.symm)
   ·obtain⟨x,hx,rfl⟩:=yf6.1 (h0.mem_iff.1 ha);obtain⟨y,hy,rfl⟩:=yf6.1 (hpe.mem_iff.1 hb);have:=hnd x y hx hy (Ex.ext' h1 h2);rw[this]
   ·rw[ens,List.pairwise_map];refine hs.imp fun {x y} h=>?_;simp only[z9h,Ex.cmp_lex]at *
    omega
def nzm(p:Ex × GRat):Option GMono:=if p.2.v≠0 then some ⟨p.1,p.2⟩else none
def nz(L:List (Ex × GRat)):List GMono:=L.filterMap nzm
def nzAt(L:List (Ex × GRat))(j:Nat):Option GMono:=L[j]?.bind nzm
theorem zgr{α β : Type}(f : α -> Option β):∀ (L:List α),(List.range L.length).filterMap (fun j=>L[j]?.bind f)=L.filterMap f
 | []=>rfl
 | x::L=>by
  rw[yg2,List.range_succ_eq_map,yj7];have h:(List.map Nat.succ (List.range L.length)).filterMap (fun j=>(x::L)[j]?.bind f)=L.filterMap f:=by rw[List.filterMap_map,<- zgr f L];rfl
  simp only[List.getElem?_cons_zero,Option.bind_some,h,yj7]
theorem z1x(L:List (Ex × GRat)):(List.range L.length).filterMap (nzAt L)=nz L:=zgr nzm L
theorem zm8{j:Nat}{Lf:List Nat}(hj:j∈Lf):∀ {R:List Nat},R.Nodup->(R.filter fun i=>i∉Lf.filter fun i => !decide (i=j)).Perm ((if j∈R then[j]else[])++R.filter fun i=>i∉Lf)
 | [],_=>by simp
 | x::R,h=>by
  obtain⟨h1,h2⟩:=ygn.1 h;have ih:=zm8 hj h2;by_cases hx:x=j
  ·subst hx;have e1:decide (x∉Lf.filter fun i => !decide (i=x))=true:=by simp
   have e2:decide (x∉Lf)=false:=by simp[hj]
   rw[yf0 h1]at ih;simp only[ygw,e1,e2,yfl,yf9,yf4,true_or,yf2,yk9,yh7]at ih ⊢;exact ih.cons x
  ·have hm:(j∈x::R) ↔ j∈R:=by simp[ygr hx]
   simp only[hm];by_cases hf:x∈Lf
   ·have e1:decide (x∉Lf.filter fun i => !decide (i=j))=false:=by simp[hf,hx]
    have e2:decide (x∉Lf)=false:=by simp[hf]
    simp only[ygw,e1,e2,yfl,yf9];exact ih
   ·have e1:decide (x∉Lf.filter fun i => !decide (i=j))=true:=by simp[hf]
    have e2:decide (x∉Lf)=true:=by simp[hf]
    simp only[ygw,e1,e2,yf2];exact(ih.cons x).trans List.perm_middle.symm
theorem z6g{L:List (Ex × GRat)}{Lf:List Nat}{j:Nat}(hj:j∈Lf)(hl:j<L.length){acc:List GMono}(h:acc.Perm (((List.range L.length).filter fun i=>i∉Lf).filterMap (nzAt L))) :
  (match nzAt L j with|some m=>acc++[m]|none=>acc).Perm (((List.range L.length).filter fun i=>i∉Lf.filter fun i => !decide (i=j)).filterMap (nzAt L)):=by
 have h1:=(zm8 hj (R:=List.range L.length) List.nodup_range).filterMap (nzAt L);rw[yf1 (ygy.2 hl),yk9,yj7]at h1;refine List.Perm.trans ?_ h1.symm;cases nzAt L j with
 | none=>exact h
 | some m=>exact(List.perm_append_comm (l₁ := acc) (l₂ := [m])).trans (h.cons m)
theorem ztd{L:List (Ex × GRat)}(h:(L.map (·.1)).Nodup):((nz L).map (·.e)).Nodup:=by
 have hsub:∀ L:List (Ex × GRat),((nz L).map (·.e)).Sublist (L.map (·.1)):=by
  intro L
  induction L with
  | nil=>exact List.Sublist.refl _
  | cons p L ih =>
   simp only[nz,yj7,nzm]at ih ⊢;split
   ·rename_i hn;exact ih.cons _
   ·rename_i m hm;split at hm
    ·cases hm;exact ih.cons_cons _
    ·cases hm
 exact(hsub L).nodup h
def lsS(r':Nat)(acc:List GMono):St:=mkSt [(3,.own 1 0 0 acc.length),(7,.p (.itv r'))] [(1,⟨6,avs acc⟩)]
def lsI(r' r:Nat)(L:List (Ex × GRat))(n:Nat)(s:St)(B:Option FA):Prop:=∃ acc Lf cur,Weak s (lsS r' acc)/\B=some (itFA r' r (mks L) (mvs L) Lf cur)/\Lf.length=n/\acc.length+Lf.length<=L.length/\acc.Perm (((List.range L.length).filter fun i=>i∉Lf).filterMap (nzAt L))
def lsE(r':Nat)(L:List (Ex × GRat))(ex:Exit)(s:St):Prop:=ex=.exit 0/\∃ acc,Weak s (lsS r' acc)/\acc.Perm (nz L)/\acc.length<=L.length
theorem zut(r:Nat)(L:List (Ex × GRat))(hL:∀ p∈L,p.2.sm 4194304)(hkn:(L.map (·.1)).Nodup)(hlen:L.length<=1000000)(l':List GMono)(hp:l'.Perm (nz L))(hs:l'.Pairwise fun x y=>y.e.cmp x.e<0) :
  Sp P F.g8 [.mp r (mks L) (mvs L)] (.fresh 6 (ens l')):=by
 refine Sp.of_mr c.g8 (by simp) ?_;unfold g.g8;generalize hP:(fun ex s (_:Option FA)=>retP [(2,none)] (RV.fresh 6 (ens l')) ex s)=Post;refine MR.gseq ?_;simp;refine MR.gseq ?_;simp;refine MR.gseq' (MR.gseq' (MR.greg (zn9 1 [[0],[6]] ?_)));simp;refine MIns.cons (zx4 ty.map (by rfl) fun r'=>?_);refine zfl [] ?_;simp;refine MR.gblk (MR.mono (MR.gloop (Post:=fun ex s B=>lsE r' L ex s) (I:=lsI r' r L) L.length ?_ ?_) ?_)
 ·refine⟨[],List.range L.length,none,?_,by simp[mks],by simp,by simp,?_⟩
  ·exact Weak.nl 3 1 6 rfl (Weak.to [3,7] [((1,0),1)] (by simp[lsS,mkSt]))
  ·have:(List.range L.length).filter (fun i=>i∉List.range L.length)=[]:=by rw[yjn];intro a ha;simp at ha ⊢;exact ha
   rw[this];exact List.Perm.refl _
 ·rintro n s B ⟨acc,Lf,cur,hw,rfl,hn,hac,hperm⟩;refine MR.weak hw ?_;unfold g.qv;refine MR.gseq' (MR.greg (MIns.cons (z12 rfl (fun h0=>?_) (fun j hj kv vv hkv hvv=>?_))))
  ·refine zfl [[8]] ?_;simp;refine MR.gseq' (MR.gcond (t:=false) rfl (fun h=>by cases h) (fun _=>MR.gext ⟨fun h=>(by cases h),fun _=>⟨fun h=>(by cases h),fun _=>⟨rfl,acc,?_,?_,by omega⟩⟩⟩))
   ·exact Weak.to [3,7] [((1,0),1)] (by simp[lsS,mkSt])
   ·subst h0;have e:(List.range L.length).filter (fun i=>decide (i∉([]:List Nat)))=List.range L.length:=yjo.2 (by simp);rw[e,z1x]at hperm;exact hperm
  ·obtain⟨p,hpj,rfl,rfl⟩:∃ p:Ex × GRat,L[j]?=some p/\kv=enc p.1/\vv=enc p.2:=by simp only[mks,yim,ygv]at hkv;obtain⟨p,h1,rfl⟩:=hkv;simp only[mvs,yim,h1,yi0,yf3]at hvv;exact⟨p,h1,rfl,hvv.symm⟩
   have hjl:=(yh6.1 hpj).1;refine zfl [[8]] ?_;simp;refine MR.gseq' (MR.gcond (t:=true) rfl (fun _=>MR.gnop ⟨fun _=>?_,fun h=>absurd rfl h⟩) (fun h=>by cases h));refine MR.gblk (MR.gseq' (MR.greg (MIns.cons (zx5 rfl hkv hvv ?_))));refine zfl [[],[10],[],[],[11],[12]] ?_;simp[lsS,mkSt];refine MR.of_vm ?_;simp;refine zaa (zjx p.2 (hL p (yhi hpj))) rfl ?_;have hstep:=z6g hj hjl hperm;have hlt:(Lf.filter fun i => !decide (i=j)).length<Lf.length:=by refine Nat.lt_of_le_of_ne (yh3 _ _) fun h=>?_;have:=(List.length_filter_eq_length_iff.1 h) j hj;simp at this
   by_cases hz:p.2.v=0
   ·have hsg:sgnR p.2.v=0:=(zkl _).2 hz;simp[hsg];have hnz:nzAt L j=none:=by simp[nzAt,hpj,nzm,hz]
    rw[hnz]at hstep;exact⟨fun _=>⟨_,by rw[<- hn];exact hlt,acc,_,_,Weak.to [3,7] [((1,0),1)] (by simp[lsS,mkSt]),rfl,rfl,by omega,hstep⟩,fun h=>absurd rfl h⟩
   ·have hsg:sgnR p.2.v≠0:=fun h=>hz ((zkl _).1 h);simp[hsg];have hnz:nzAt L j=some ⟨p.1,p.2⟩:=by simp[nzAt,hpj,nzm,hz]
    rw[hnz]at hstep;exact⟨by omega,fun _=>⟨_,by rw[<- hn];exact hlt,acc++[⟨p.1,p.2⟩],_,_,Weak.to [3,7] [((21,0),1)] (by simp[lsS,mkSt]),rfl,rfl,by simp;omega,hstep⟩,fun h=>absurd rfl h⟩
 ·rintro ex s B ⟨rfl,acc,hw,hperm,hac⟩;refine⟨fun _=>?_,fun h=>absurd rfl h⟩;refine MR.weak hw (MR.of_vm ?_);simp[lsS,mkSt];subst hP;have hkn':(acc.map (·.e)).Nodup:=(hperm.map _).nodup_iff.2 (ztd hkn);have hll:l'.length=acc.length:=(hp.trans hperm.symm).length_eq;refine zfe (z01 acc l' (by omega) hkn' (hp.trans hperm.symm) hs) (by simp) rfl rfl (by simp) (by simp) (by simp[hll]) rfl (zgw _ _ rfl) (cells_one (fun _=>rfl) _) (by simp) ?_;simp[hll]
theorem zR_v:zR.v=0:=zqc
structure MInv (ms:List GMono) (L:List (Ex × GRat)):Prop where
 tot:∀ e,(zhm e L).v=pc ms e
 val:∀ e c,mget e L=some c->c=rto (pc ms e)/\∃ m∈ms,m.e=e
 nod:(L.map (·.1)).Nodup
 len:L.length<=ms.length
theorem zti{κ α : Type}[DecidableEq κ](e : κ)(c : α):∀ L:List (κ × α),(mset e c L).length<=L.length+1
 | []=>by simp[mset]
 | (e',c')::L=>by have:=zti e c L;simp only[mset];split<;>simp<;>omega
theorem zk5{κ α : Type}[DecidableEq κ]{e : κ}{c : α}:∀ {L:List (κ × α)},(L.map (·.1)).Nodup->(e,c)∈L->mget e L=some c
 | (e',c')::L,hn,h=>by
  obtain⟨h1,h2⟩:=ygn.1 hn;simp only[mget];rcases yf4.1 h with h|h
  ·cases h;simp
  ·have:e'≠e:=by rintro rfl;exact h1 (yf6.2 ⟨_,h,rfl⟩)
   rw[yf0 this];exact zk5 h2 h
theorem MInv.step{ms:List GMono}{L:List (Ex × GRat)}(h:MInv ms L)(m:GMono):MInv (ms++[m]) (madd m L):=by
 have hpc:∀ e,pc (ms++[m]) e=pc ms e+if m.e=e then m.coef.v else 0:=fun e=>by rw[zky];simp[pc,ygo]
 refine⟨fun e=>?_,fun e c hc=>?_,zu6 _ _ h.nod,?_⟩
 ·rw[hpc];simp only[zhm,madd,zk6];split
  ·rename_i he;subst he;simp only[yhn,zhi];have:=h.tot m.e;simp only[zhm]at this;rw[this]
  ·rw[ygo];exact h.tot e
 ·simp only[madd,zk6]at hc;rw[hpc];split at hc
  ·rename_i he;subst he;cases hc;exact⟨by rw[h.tot,yf1 rfl],m,by simp,rfl⟩
  ·rename_i he;obtain⟨q1,x,q2,q3⟩:=h.val e c hc;exact⟨by rw[yf0 he,ygo];exact q1,x,by simp[q2],q3⟩
 ·have:=zti m.e (rto ((zhm m.e L).v+m.coef.v)) L;have:=h.len;simp only[madd,ygi,yhe];omega
def zk9(ms:List GMono)(L:List (Ex × GRat)):List (Ex × GRat):=ms.foldl (fun L m=>madd m L) L
theorem MInv.fold:∀ (ms':List GMono) {ms:List GMono} {L:List (Ex × GRat)},MInv ms L->MInv (ms++ms') (zk9 ms' L)
 | [],ms,L,h=>by simpa[zk9]using h
 | m::ms',ms,L,h=>by have:=MInv.fold ms' (h.step m);simpa[zk9]using this
theorem MInv.nil:MInv [] []:=⟨fun e=>zR_v,fun e c h=>(by cases h),by simp,by simp⟩
theorem minv(ms:List GMono):MInv ms (zk9 ms []):=by simpa using MInv.fold ms MInv.nil
theorem MInv.mem{ms:List GMono}{L:List (Ex × GRat)}(h:MInv ms L){p:Ex × GRat}(hp:p∈L):p.2=rto (pc ms p.1)/\∃ m∈ms,m.e=p.1:=h.val p.1 p.2 (zk5 h.nod hp)
theorem z58{p q:List GMono}(h:p.Perm q)(e:Ex):pc p e=pc q e:=by
 induction h with
 | nil=>rfl
 | cons x _ ih=>simp only[pc,ih]
 | swap x y l=>simp only[pc];rw[<- Rat.add_assoc,<- Rat.add_assoc,yhw (if y.e=e then y.coef.v else 0)]
 | trans _ _ ih1 ih2=>rw[ih1,ih2]
theorem zxs{L:List (Ex × GRat)}{m:GMono}(h:m∈nz L):(m.e,m.coef)∈L/\m.coef.v≠0:=by
 obtain⟨p,hp,h⟩:=List.mem_filterMap.1 h;unfold nzm at h;split at h
 ·rename_i hz;cases h;exact⟨hp,hz⟩
 ·cases h
theorem z9u:∀ {L:List (Ex × GRat)} (e:Ex),(L.map (·.1)).Nodup->pc (nz L) e=(zhm e L).v
 | [],e,_=>by simp[nz,pc,zhm,mget,zR_v]
 | (e1,c1)::L,e,h=>by
  obtain⟨h1,h2⟩:=ygn.1 h;have ih:=z9u (L:=L) e h2;have hcons:nz ((e1,c1)::L)=if c1.v≠0 then⟨e1,c1⟩::nz L else nz L:=by simp only[nz,yj7,nzm];split<;>split<;>simp_all
  rw[hcons];simp only[zhm,mget];by_cases he:e1=e
  ·subst he;have hz:pc (nz L) e1=0:=zkx fun m hm hme=>h1 (yf6.2 ⟨_,(zxs hm).1,hme⟩);split
   ·simp[pc,hz,ygo]
   ·rename_i hc;simp at hc;simp[hz,hc]
  ·simp only[yf0 he];simp only[zhm]at ih;split
   ·simp[pc,he,ih,yi6]
   ·exact ih
theorem zxg{p q:List GMono}(hp:PVal p)(hq:PVal q){L:List (Ex × GRat)}(h:MInv (p++q) L):(padd p q).Perm (nz L):=by
 have hok:∀ m∈p++q,m.ok=true:=fun m hm=>by
  rcases yfk.1 hm with h|h
  ·exact(zao.1 hp).1 m h
  ·exact(zao.1 hq).1 m h
 have hnok:∀ m∈nz L,m.ok=true:=fun m hm=>by obtain⟨h1,h2⟩:=zxs hm;obtain⟨h3,x,h4,h5⟩:=h.mem h1;simp only at h3 h5;refine GMono.ok_iff.2 ⟨?_,by rw[h3];exact ze2 _,h2⟩;rw[<- h5];exact(GMono.ok_iff.1 (hok x h4)).1
 let le:GMono->GMono->Bool:=fun a b=>decide (b.e.code<=a.e.code)
 have hperm:((nz L).mergeSort le).Perm (nz L):=List.mergeSort_perm _ _;have hsort:((nz L).mergeSort le).Pairwise fun a b=>le a b=true:=List.pairwise_mergeSort (fun a b c h1 h2=>by simp only[le,decide_eq_true_eq]at *;omega) (fun a b=>by simp only[le,yij,decide_eq_true_eq];omega) _;have hnd:(((nz L).mergeSort le).map (·.e)).Nodup:=(hperm.map _).nodup_iff.2 (ztd h.nod);have hval:PVal ((nz L).mergeSort le):=by
  refine zao.2 ⟨fun m hm=>hnok m (hperm.mem_iff.1 hm),?_⟩;have h2:((nz L).mergeSort le).Pairwise fun a b=>a.e≠b.e:=List.pairwise_map.1 hnd;refine(hsort.and h2).imp_of_mem fun {a b} ha hb hab=>?_;have oa:=(GMono.ok_iff.1 (hnok a (hperm.mem_iff.1 ha))).1;have ob:=(GMono.ok_iff.1 (hnok b (hperm.mem_iff.1 hb))).1;have h3:b.e.code<=a.e.code:=by simpa[le]using hab.1
  have h4:b.e.code≠a.e.code:=fun he=>hab.2 ((Ex.code_inj ob oa).1 he).symm;omega
 have:padd p q=(nz L).mergeSort le:=by refine znx (zdb q hp) hval fun e=>?_;rw[zgh p (zao.1 hq).1,z58 hperm,z9u e h.nod,h.tot,zky]
 rw[this];exact hperm
theorem zri{p q:List GMono}(hp:PVal p):(padd p q).Pairwise fun x y=>y.e.cmp x.e<0:=by have hv:=zao.1 (zdb q hp);refine hv.2.imp_of_mem fun {a b} ha hb h=>?_;exact(Ex.cmp_neg (GMono.ok_iff.1 (hv.1 b hb)).1 (GMono.ok_iff.1 (hv.1 a ha)).1).2 h
theorem MInv.sm{p q:List GMono}{n:Nat}(hp:PVal p)(hq:PVal q)(sp:psm p n)(sq:psm q n)(hn:1<=n){L:List (Ex × GRat)}(h:MInv (p++q) L):∀ x∈L,x.1.ok=true/\x.2.sm (n+n+1):=by
 intro x hx;obtain⟨h1,m,h2,h3⟩:=h.mem hx;refine⟨?_,?_⟩
 ·rw[<- h3];rcases yfk.1 h2 with h|h
  ·exact(GMono.ok_iff.1 ((zao.1 hp).1 m h)).1
  ·exact(GMono.ok_iff.1 ((zao.1 hq).1 m h)).1
 ·have ga:∀ {p:List GMono},PVal p->psm p n->∃ a:GRat,a.sm n/\a.v=pc p x.1:=fun {p} hv sp=>by
   rcases zn1 hv x.1 with h|⟨y,hy,h⟩
   ·exact⟨gr0,zgm n,by rw[zqc,h]⟩
   ·exact⟨y.coef,sp y hy,h.symm⟩
  obtain⟨a,a1,a2⟩:=ga hp sp;obtain⟨b,b1,b2⟩:=ga hq sq;rw[h1,zky,<- a2,<- b2];exact zii a1 b1 hn hn
def paS(r:Nat)(ms:List GMono)(k:Nat):St:=mkSt [(5,.p (.mapv r)),(14,.own 1 0 0 ms.length),(15,.p (.int .i64 ms.length)),(16,.p (.int .i64 k))] [(1,⟨6,avs ms⟩)]
def paB(r:Nat)(ms:List GMono):Option FA:=some (zhn r (mks (zk9 ms [])) (mvs (zk9 ms [])))
def paI(r:Nat)(ms:List GMono)(n:Nat)(s:St)(B:Option FA):Prop:=∃ k,k<=ms.length/\n=ms.length - k/\Weak s (paS r ms k)/\B=paB r (ms.take k)
def paE(r:Nat)(ms:List GMono)(ex:Exit)(s:St)(B:Option FA):Prop:=ex=.exit 0/\Weak s (paS r ms ms.length)/\B=paB r ms
theorem zu8(ms:List GMono)(m:GMono):zk9 (ms++[m]) []=madd m (zk9 ms []):=by simp[zk9]
def paR:GC:=.seq (.reg [⟨some 27,.mv (.t 5),none⟩,⟨some 28,.call F.g8 [.t 27],none⟩,⟨some 4,.mv (.t 28),none⟩] [[5,14,15,16],[27],[28]])
 (.ret)
theorem zxh(r:Nat)(p q:List GMono)(n:Nat)(vp:PVal p)(vq:PVal q)(sp:psm p n)(sq:psm q n)(hn1:1<=n)(hn:n<=400000)(lp:p.length<=100000)(lq:q.length<=100000){s:St}(hw:Weak s (paS r (p++q) 0)) :
  MR P 29 (GC.blk 0 (.loop g.om)).er s (paB r []) fun ex s B=>(ex=.normal->MR P 29 paR.er s B fun ex s _=>retP [(4,none)] (RV.pure (.sl (ens (padd p q)))) ex s)/\(ex ≠ .normal->retP [(4,none)] (RV.pure (.sl (ens (padd p q)))) ex s):=by
 have hlen:(p++q).length<=200000:=by simp;omega
 have hokm:∀ m∈p++q,m.e.ok=true/\m.coef.sm n:=fun m hm=>by
  rcases yfk.1 hm with h|h
  ·exact⟨(GMono.ok_iff.1 ((zao.1 vp).1 m h)).1,sp m h⟩
  ·exact⟨(GMono.ok_iff.1 ((zao.1 vq).1 m h)).1,sq m h⟩
 have hinv:∀ k,∀ x∈zk9 ((p++q).take k) [],x.1.ok=true/\x.2.sm 1048576:=fun k x hx=>by have h:=minv ((p++q).take k);have e:(p++q).take k=p.take k++q.take (k - p.length):=List.take_append;rw[e]at h hx;obtain⟨h1,h2⟩:=h.sm (vp.take k) (vq.take _) (fun m hm=>sp m (ygb hm)) (fun m hm=>sq m (ygb hm)) hn1 x hx;exact⟨h1,h2.mono (by omega)⟩
 have hfin:=minv (p++q);have hsm:=hinv (p++q).length;rw[yfs]at hsm;have hperm:=zxg vp vq hfin;have hsort:=zri (p:=p) (q:=q) vp;generalize hms:p++q=ms at *
 refine MR.gblk (MR.mono (MR.gloop (Post:=paE r ms) (I:=paI r ms) ms.length ⟨0,by omega,by omega,hw,rfl⟩ ?_) ?_)
 ·rintro n0 s B ⟨k,hk,rfl,hw,rfl⟩;refine MR.weak hw ?_;unfold g.om;refine MR.gseq ?_;simp[paS,mkSt];by_cases hlt:k<ms.length
  ·refine MR.gseq' (MR.gcond (t:=true) (by simp[hlt]) (fun _=>MR.gnop ⟨fun _=>?_,fun h=>absurd rfl h⟩) (fun h=>by cases h));simp;refine MR.gseq' (MR.gblk (MR.gseq ?_));simp;refine⟨hlt,zad hlt ?_⟩;have hmk:=hokm ms[k] (yfi hlt);refine MR.greg (zn9 5 [[],[],[21],[7],[23]] ?_);simp;refine MIns.cons (zx7 (args:=[enc ms[k].e,enc ms[k].coef]) (zwl ms[k] _ hmk.1 (hmk.2.mono (by omega)) (hinv k)) (by simp) (ztf _) (zte _) ?_);refine zfl [[20,22,24,25]] ?_;simp;refine⟨fun _=>MR.of_vm ?_,fun h=>absurd rfl h⟩;have e3:=i64s k;simp[e3];refine⟨_,?_,k+1,by omega,rfl,Weak.to [5,14,15,16] [((1,0),1)] (by simp[paS,mkSt]),?_⟩
   ·omega
   ·simp only[paB];rw[yfu hlt,zu8]
  ·have hk':k=ms.length:=by omega
   refine MR.gseq' (MR.gcond (t:=false) (by simp[hlt]) (fun h=>by cases h) (fun _=>MR.gext ⟨fun h=>(by cases h),fun _=>⟨fun h=>(by cases h),fun _=>⟨rfl,?_,?_⟩⟩⟩))
   ·exact Weak.to [5,14,15,16] [((1,0),1)] (by simp[paS,mkSt,hk'])
   ·rw[hk',yfs]
 ·rintro ex s B ⟨rfl,hw,rfl⟩;refine⟨fun _=>?_,fun h=>absurd rfl h⟩;refine MR.weak hw (MR.freeze (t:=5) rfl ?_);refine MR.of_vm ?_;simp[paR,paS,mkSt];have hpl:=zs7 p q;refine zc8 (zut r (zk9 ms []) (fun x hx=>(hsm x hx).2.mono (by omega)) hfin.nod (by have:=hfin.len;omega) (padd p q) hperm hsort) (by simp) ⟨zgw _ _ rfl,by decide,by simp[-zat,ens,LIM];omega⟩ _ rfl ?_;simp[killAll]
theorem zuy(p q:List GMono)(n:Nat)(sp:psm p n)(sq:psm q n)(hn1:1<=n)(hn:n<=400000)(lp:p.length<=100000)(lq:q.length<=100000) :
  Sp P F.kr [.sl (ens p),.sl (ens q)] (.pure (.sl (ens (padd (pv p) (pv q))))):=by
 refine Sp.of_mr c.kr (by simp) ?_;unfold g.kr;generalize hP:(fun ex s (_:Option FA)=>retP [(4,none)] (RV.pure (.sl (ens (padd (pv p) (pv q))))) ex s)=Post;have vp:=z38 p;have vq:=z38 q;have s1:=z4a sp;have s2:=z4a sq;have l1:=z4b p;have l2:=z4b q;refine MR.gseq ?_;simp;refine MR.gseq' (MR.greg (MIns.cons (zrt fun r=>?_)));refine zfl [[8]] ?_;simp;refine MR.gseq' (MR.gseq ?_);simp;refine zaa (zpu p (sp.mono (by omega)) (by omega)) rfl ?_;simp;refine zaa (zpu q (sq.mono (by omega)) (by omega)) rfl ?_;simp;refine zc8 (zzu (pv p) (pv q) (by omega)) (by simp) ⟨zgw _ _ rfl,by decide,by simp[-zat,ens,LIM];omega⟩ _ rfl ?_;cases hfl:(ens (pv p++pv q)).all PV.flat
 ·simp[killAll];subst hP;refine zxh r (pv p) (pv q) n vp vq s1 s2 hn1 hn (by omega) (by omega) ?_;exact Weak.to [5,14,15,16] [((14,0),1)] (by simp[paS,mkSt])
 ·simp;subst hP;refine zxh r (pv p) (pv q) n vp vq s1 s2 hn1 hn (by omega) (by omega) ?_;exact Weak.to [5,14,15,16] [((14,0),1)] (by simp[paS,mkSt])
end Go.Ab
namespace Go.Ab
open Enc (enc)
attribute [local simp] zai Opd.slots
theorem GRat.sm.monoR{x:GRat}{m n:Nat}(h:x.sm m)(k:m<=n):x.sm n:=⟨yf7 h.1 k,yf7 h.2 k⟩
theorem psm.monoR{p:List GMono}{m n:Nat}(h:psm p m)(k:m<=n):psm p n:=fun x hx=>(h x hx).monoR k
theorem GW.sm.mono{m n:Nat}(k:m<=n):∀ w:GW,w.sm m->w.sm n:=by
 refine GW.sm.ind fun v hv ih=>?_;cases v with
 | mk q c i s p ps=>exact .mk (hv.q.monoR k) (hv.poly.monoR k) (yf7 hv.len k) (yf7 hv.plen k) ih
theorem GW.sm.one(k:Int){n:Nat}{q:GRat}{c:Int}{i:Bool}{s:UInt64}{p:List GMono}(hq:q.sm n)(hp:psm p n)(hl:p.length<=n):(GW.mk q c i s p []).sm n:=.mk hq hp hl (by simp) (by simp)
theorem zny(n:Nat):psm [] n:=by intro m hm;simp at hm
theorem zs4{k:Int}{v w:GW}{m n:Nat}(hv:v.sm m)(hw:w.sm n)(cv:v.chk ⟨k,[]⟩)(cw:w.chk ⟨k,[]⟩)(hm:1<=m)(hn:1<=n):(za3 k v w).sm (m+n+1):=by
 unfold za3;have hv':=hv.mono (show m<=m+n+1 by omega);have hw':=hw.mono (show n<=m+n+1 by omega);split
 ·exact .one 0 (zii hv.q hw.q hm hn) (zny _) (by simp)
 ·split
  ·split
   ·exact hw'
   ·exact hv'
  ·split
   ·split
    ·exact hw'
    ·exact hv'
   ·split
    ·exact .one 0 (zgm _) (zny _) (by simp)
    ·exact .one 0 (zgm _) (z6a (ybd cv) (ybd cw) hv.poly hw.poly hm hn) (by have:=zs7 v.poly w.poly;have:=hv.len;have:=hw.len;omega)
def zgg:List Int->List GW->List GW->List GW
 | k::ks,v::vs,w::ws=>za3 k v w::zgg ks vs ws
 | _,_,_=>[]
def GRing.plus(r:GRing)(v w:GW):GW:=if r.kind=6 then .mk gr0 0 false 0 [] (zgg r.parts v.parts w.parts)else za3 r.kind v w
theorem zbs:∀ {ks:List Int} {vs ws:List GW},vs.length=ks.length->ws.length=ks.length->(zgg ks vs ws).length=ks.length
 | [],vs,ws,_,_=>by simp[zgg]
 | k::ks,[],ws,h,_=>by simp at h
 | k::ks,v::vs,[],_,h=>by simp at h
 | k::ks,v::vs,w::ws,h1,h2=>by simp[zgg,zbs (ks:=ks) (vs:=vs) (ws:=ws) (by simpa using h1) (by simpa using h2)]
theorem zb4:∀ {ks:List Int} {vs ws:List GW} {i:Nat} (h:i<ks.length) (h1:i<vs.length) (h2:i<ws.length) (h3:i<(zgg ks vs ws).length),(zgg ks vs ws)[i]=za3 ks[i] vs[i] ws[i]
 | k::ks,v::vs,w::ws,0,_,_,_,_=>by simp[zgg]
 | k::ks,v::vs,w::ws,i+1,h,h1,h2,h3=>by simp only[zgg,List.getElem_cons_succ];exact zb4 (by simpa using h) (by simpa using h1) (by simpa using h2) (by simpa[zgg]using h3)
end Go.Ab
namespace Go.Ab
open Enc (enc)
theorem zw9(v w:GW)(n:Nat)(hv:v.sm n)(hw:w.sm n)(hn:n<=400000)(hn1:1<=n)(pv':PVal v.poly)(pw:PVal w.poly):Sp P F.d8 [enc v,enc w] (.pure (enc (za3 5 v w))):=by
 have h1:v.poly.length<=100000:=by have:=zs3 pv';omega
 have h2:w.poly.length<=100000:=by have:=zs3 pw;omega
 have k:=zuy v.poly w.poly n hv.poly hw.poly hn1 hn h1 h2;rw[z9t pv',z9t pw]at k;refine Sp.vz c.d8 fun _=>?_;simp[g.d8];refine zaa k rfl ?_;simp[za3,gr0]
theorem zs5(k:Int)(hk:1<=k/\k<=5)(v w:GW)(n:Nat)(hv:v.sm n)(hw:w.sm n)(hn:n<=400000)(hn1:1<=n)(sv:v.si k)(sw:w.si k):Sp P (kF3 k) (enc v::enc w::kC3 k) (.pure (enc (za3 k v w))):=by
 have:k=1\/k=2\/k=3\/k=4\/k=5:=by omega
 have hv':=hv.mono (show n<=1048576 by omega);have hw':=hw.mono (show n<=1048576 by omega);rcases this with rfl|rfl|rfl|rfl|rfl
 ·exact z1k v w hv' hw'
 ·exact z3a v w sv sw
 ·exact z2i v w hv' hw' sv sw
 ·exact z04 v w
 ·exact zw9 v w n hv hw (by omega) hn1 (sv.2.2.2.2.2.2.2.2 rfl) (sw.2.2.2.2.2.2.2.2 rfl)
theorem z5z(r:GRing)(v w:GW)(n:Nat)(hv:v.sm n)(hw:w.sm n)(hn:n<=400000)(hn1:1<=n)(cv:v.chk r)(cw:w.chk r)(h6:r.kind≠6):Sp P F.ax [enc r,enc v,enc w] (.pure (enc (za3 r.kind v w))):=by have hr0:=cv.1;have hk:=GRing.ok_kind hr0 h6;have t1:v.tk r=v:=yf1 cv;have t2:w.tk r=w:=yf1 cw;have k1:=zhx r v (hv.mono (by omega));have k2:=zhx r w (hw.mono (by omega));rw[t1]at k1;rw[t2]at k2;refine Sp.vz c.ax fun _=>?_;simp[g.ax];refine zaa (zf4 r) rfl ?_;simp[hr0];refine zaf k1 ?_;simp;refine zaf k2 ?_;simp[h6];obtain⟨f5,f6,f7,f8,c5,c8,hA⟩:=zfp r.kind ⟨hk.1,hk.2.1⟩;refine zaa (zle r.kind ⟨hk.1,hk.2.1⟩) rfl ?_;simp[hA];refine zaa (zs5 r.kind ⟨hk.1,hk.2.1⟩ v w n hv hw hn hn1 (cv.2.1 h6) (cw.2.1 h6)) (zb5 (by simp) (zb5 (by simp) (zfm _ _))) ?_;simp
theorem zxd(k:Int)(hk:1<=k/\k<=5)(v w:GW)(i n:Nat)(iv:i<v.parts.length)(iw:i<w.parts.length)(hi:i<=3)(hv:v.parts[i].sm n)(hw:w.parts[i].sm n)(hn:n<=400000)(hn1:1<=n)(sv:v.parts[i].si k)(sw:w.parts[i].si k) :
  Sp P F.gn [zl7 k,.int .i64 i,.ref (enc v),.ref (enc w)] (.pure (enc (za3 k v.parts[i] w.parts[i]))):=by
 obtain⟨f5,f6,f7,f8,c5,c8,hA⟩:=zfp k hk;rw[hA];refine Sp.of_vmW c.gn (by simp) ((Weak.openRef (t:=2) (v:=enc v) (n:=8) (by simp) (by simp)).trans (Weak.openRef (t:=3) (v:=enc w) (n:=8) (by simp) (by simp))) ?_;simp[g.gn];refine zad iv ?_;refine zad iw ?_;refine zaa (zs5 k hk v.parts[i] w.parts[i] n hv hw hn hn1 sv sw) (zb5 (by simp) (zb5 (by simp) (zfm _ _))) ?_;simp
theorem zhz(st:St)(s g ix off:Nat):toPV st 5 (.ptr s g ix off)=if ix=0/\off=0 then match st.obj s g with
  | some o=>match o.es with
   | [e]=>(toPV st 4 e).map .ref
   | _=>none
  | none=>none
  else none:=rfl
theorem znm(st:St)(v:PV):toPV st 4 (.p v)=some v:=rfl
theorem zxc(r:GRing)(v w:GW)(n:Nat)(hv:v.sm n)(hw:w.sm n)(hn:n<=400000)(hn1:1<=n)(cv:v.chk r)(cw:w.chk r):Sp P F.ax [enc r,enc v,enc w] (.pure (enc (r.plus v w))):=by
 have hr0:=cv.1;by_cases h6:r.kind=6;rotate_left
 ·have h1:r.plus v w=za3 r.kind v w:=by simp[GRing.plus,h6]
  rw[h1];exact z5z r v w n hv hw hn hn1 cv cw h6
 have hp:=GRing.ok_parts hr0 h6;have t1:v.tk r=v:=yf1 cv;have t2:w.tk r=w:=yf1 cw;have k1:=zhx r v (hv.mono (by omega));have k2:=zhx r w (hw.mono (by omega));rw[t1]at k1;rw[t2]at k2;have lv:=(cv.2.2 h6).1;have lw:=(cw.2.2 h6).1;have lp:(zgg r.parts v.parts w.parts).length=r.parts.length:=zbs lv lw;refine Sp.vz c.ax fun _=>?_;simp[g.ax];refine zaa (zf4 r) rfl ?_;simp[hr0];refine zaf k1 ?_;simp;refine zaf k2 ?_;simp[h6];refine zaa (zzm r hp.2.2 hp.2.1 F.gn [.ref (enc v),.ref (enc w)] (zgg r.parts v.parts w.parts) lp fun i h h'=>?_) ?_ ?_
 ·rw[zb4 h (by omega) (by omega) h'];exact zxd r.parts[i] (hp.2.2 _ (yfi h)) v w i n (by omega) (by omega) (by omega) (hv.parts _ (yfi _)) (hw.parts _ (yfi _)) hn hn1 ((cv.2.2 h6).2.2 i h (by omega)) ((cw.2.2 h6).2.2 i h (by omega))
 ·simp[zhz,znm,h6]
 simp[GRing.plus,h6]
theorem zjz(r:GRing)(v w:GW)(n:Nat)(hv:v.sm n)(hw:w.sm n)(hn:n<=2000)(hn1:1<=n)(cv:v.chk r)(cw:w.chk r):Sp P F.ax [enc r,enc v,enc w] (.pure (enc (r.plus v w))):=zxc r v w n hv hw (by omega) hn1 cv cw
theorem ziu(r:GRing)(w:GW)(hw:w.sm 1048576):Sp P F.cr [enc r,enc w] (.pure (.bool (decide (w=r.zero)))):=by refine Sp.vz c.cr fun _=>?_;simp[g.cr];refine zaa (zgy r) rfl ?_;simp;refine zaf (zdp w hw r.zero) ?_;simp
theorem z1e(r:GRing)(hl:r.parts.length<=2147483648):Sp P F.jt [enc r] (.pure (enc r)):=by refine Sp.vz c.jt fun _=>?_;simp[g.jt];refine zaf (zvr r.parts hl) ?_;simp
theorem zo8(r:GRing)(w:GW)(hw:w.sm 1048576):Sp P F.gm [enc w,.ref (enc r)] (.pure (.bool (!decide (w.chk r)))):=by refine Sp.of_vmW c.gm (by simp) (Weak.openRef (t:=1) (v:=enc r) (n:=2) (by simp) (by simp)) ?_;simp[g.gm];refine zaf (zly r w hw) ?_;simp
theorem zxi(x y:GArc):Sp P F.bu [enc x,enc y] (.pure (.int .i64 (zhh [cmpI x.f y.f,cmpI x.l y.l,cmpI x.t y.t]))):=by refine Sp.vz c.bu fun _=>?_;simp[g.bu];refine zaa (zi1 x.f y.f) rfl ?_;simp;refine zaa (zi1 x.l y.l) rfl ?_;simp;refine zaa (zi1 x.t y.t) rfl ?_;simp;refine zaf (z3h [cmpI x.f y.f,cmpI x.l y.l,cmpI x.t y.t] (by simp)) ?_;simp
theorem zj9(r:GRing)(l:List GW)(hl:∀ w∈l,w.sm 1048576)(hlen:l.length<=2147483648):Sp P F.j5 [enc r,.sl (ens l)] (.pure (.bool (!l.any fun w => !decide (w.chk r)))):=by refine Sp.vz c.j5 fun _=>?_;simp[g.j5];refine zaa (zl8 l F.gm [.ref (enc r)] (fun w => !decide (w.chk r)) (by omega) fun w hw=>zo8 r w (hl w hw)) (by simp[zhz,znm]) ?_;simp
theorem zpg(st:St)(s g ix off:Nat):toPV st FUEL (.ptr s g ix off)=if ix=0/\off=0 then match st.obj s g with
  | some o=>match o.es with
   | [e]=>(toPV st 5 e).map .ref
   | _=>none
  | none=>none
  else none:=rfl
theorem zwc(st:St)(v:PV):toPV st 5 (.p v)=some v:=rfl
theorem zlg(x:Int)(a:GAuto):Sp P F.kg [.int .i64 x,.ref (enc a)] (.pure (.bool (decide (0<=x/\x<a.st)))):=by refine Sp.of_vmW c.kg (by simp) (Weak.openRef (t:=1) (v:=enc a) (n:=7) (by simp) (by simp)) ?_;simp[g.kg];exact⟨fun h _=>h,fun h h'=>by omega⟩
def inA(x:GArc)(a:GAuto):Prop:=0<=x.f/\x.f<a.st/\0<=x.t/\x.t<a.st/\0<=x.l/\x.l<=a.sy/\x.w.chk a.ring
noncomputable instance (x:GArc) (a:GAuto):Decidable (inA x a):=Classical.propDecidable _
theorem zvc(x:GArc)(a:GAuto)(hw:x.w.sm 1048576):Sp P F.j4 [enc x,enc a] (.pure (.bool (decide (inA x a)))):=by
 refine Sp.vz c.j4 fun _=>?_;have hd:decide (inA x a)=(decide (0<=x.f)&&(decide (x.f<a.st)&&(decide (0<=x.t)&&(decide (x.t<a.st)&&(decide (0<=x.l)&&(decide (x.l<=a.sy)&&decide (x.w.chk a.ring))))))):=by rw[yj6,decide_eq_true_iff];simp only[decide_eq_true_eq,yfr];exact Iff.rfl
 rw[hd];simp[g.j4];refine zaa (zlg x.f a) (by simp[zpg,zwc]) ?_;simp;refine⟨fun h1 h2=>?_,fun h1=>?_⟩
 ·refine zaa (zlg x.t a) (by simp[zpg,zwc]) ?_;simp;refine⟨fun h3 h4=>⟨fun h5=>⟨fun h6=>?_,fun h6=>?_⟩,fun h5=>?_⟩,fun h3=>?_⟩
  ·refine zaf (zly a.ring x.w hw) ?_;simp[h1,h2,h3,h4,h5,h6]
  ·intros;omega
  ·intros;omega
  ·intro _ _ h;have:=h3 h;intros;omega
 ·intro h;have:=h1 h;intros;omega
theorem zq2(x:GArc)(a:GAuto)(hw:x.w.sm 1048576):Sp P F.gh [enc x,.ref (enc a)] (.pure (.bool (!decide (inA x a)))):=by refine Sp.of_vmW c.gh (by simp) (Weak.openRef (t:=1) (v:=enc a) (n:=7) (by simp) (by simp)) ?_;simp[g.gh];refine zaf (zvc x a hw) ?_;simp
noncomputable def GAuto.vb(a:GAuto):Bool:=a.ring.ok&&(decide (1<=a.sy)&&(decide (a.sy<=32)&&(decide (0<=a.st)&&(decide (a.st<=64)&&(decide ((a.ini.length:Int)=a.st)&&(decide ((a.fin.length:Int)=a.st)&&(decide (a.arcs.length<=2048)&&((!a.arcs.any fun x => !decide (inA x a))&&((!a.ini.any fun w => !decide (w.chk a.ring))&&(!a.fin.any fun w => !decide (w.chk a.ring)))))))))))
structure GAuto.sm (a:GAuto) (n:Nat):Prop where
 ini:∀ w∈a.ini,w.sm n
 fin:∀ w∈a.fin,w.sm n
 arcs:∀ x∈a.arcs,x.w.sm n
theorem zv7(a:GAuto)(h:a.sm 1048576):Sp P F.jr [enc a] (.pure (.bool a.vb)):=by
 refine Sp.vz c.jr fun _=>?_;simp[g.jr];refine zaa (zf4 a.ring) rfl ?_;cases hr:a.ring.ok
 ·simp[GAuto.vb,hr]
 simp;refine⟨fun h1=>by simp[GAuto.vb,show ¬ 1<=a.sy by omega],fun h1=>⟨fun h2=>by simp[GAuto.vb,show ¬ a.sy<=32 by omega],fun h2=>⟨fun h3=>by simp[GAuto.vb,show ¬ 0<=a.st by omega],fun h3=>⟨fun h4=>by simp[GAuto.vb,show ¬ a.st<=64 by omega],fun h4=>⟨fun h5=>⟨fun h6=>⟨fun h7=>by simp[GAuto.vb,show ¬ a.arcs.length<=2048 by omega],fun h7=>?_⟩,fun h6=>by simp[GAuto.vb,h6]⟩,fun h5=>by simp[GAuto.vb,h5]⟩⟩⟩⟩⟩;refine zaa (zlm a.arcs F.gh [.ref (enc a)] (fun x => !decide (inA x a)) (by omega) fun x hx=>zq2 x a (h.arcs x hx)) (by simp[zhz,znm]) ?_;simp;cases hA:a.arcs.any fun x => !decide (inA x a);rotate_left
 ·simp;simp[GAuto.vb,hA]
 simp;refine zaf (zj9 a.ring a.ini h.ini (by omega)) ?_;cases hB:a.ini.any fun w => !decide (w.chk a.ring);rotate_left
 ·simp;simp[GAuto.vb,hB]
 simp;refine zaf (zj9 a.ring a.fin h.fin (by omega)) ?_;have h8:a.arcs.length<=2048:=by omega
 simp;simp only[GAuto.vb,hr,h1,h2,h3,h4,h5,h6,h8,hA,hB,decide_true,yhp,Bool.not_false];cases a.fin.any fun w => !decide (w.chk a.ring)<;>rfl
theorem z3d(r:GRing)(l:List GW)(n:Nat)(hn:n<=2000)(hn1:1<=n)(hl:l.length<=1000000)(h:∀ w∈l,w.sm n/\w.chk r)(hz:r.zero.sm n)(cz:r.zero.chk r) :
  Sp P F.fu [enc r,.sl (ens l)] (.pure (.sl (ens (l.map fun w=>r.plus w r.zero)))):=by
 refine Sp.vz c.fu fun _=>?_;simp[g.fu]
 refine zaj (S:=fun k:Nat=>mkSt [(2,.ptr 2 0 0 0),(5,.own 1 0 0 k),(8,.p (.sl (ens l))),(9,.p (.int .i64 l.length)),(10,.p (.int .i64 k))] [(2,⟨2,[.p (enc r)]⟩),(1,⟨8,avs ((l.take k).map fun w=>r.plus w r.zero)⟩)]) (I:=fun k=>k<=l.length) (m:=fun k=>l.length - k) 0
  (Weak.nl 5 77 8 rfl (Weak.to [2,5,8,9,10] [((2,0),2),((77,0),1)] (by simp))) (by omega) ?_
 rintro k h1 R hn' hr hx;have e3:=i64s k;simp[g.qa,mkSt];refine⟨fun hk=>?_,fun hk=>hx _ _ ?_⟩
 ·refine zad hk ?_
  try simp
  refine zaa (zgy r) rfl ?_
  try simp
  have hw:=h _ (List.getElem_mem hk);refine zaf (zjz r l[k] r.zero n hw.1 hz hn hn1 hw.2 cz) ?_;simp[e3];have hts:l.take (k+1)=l.take k++[l[k]]:=List.take_succ_eq_append_getElem hk;refine⟨⟨by omega,by omega⟩,hn' (k+1) _ (Weak.to [2,5,8,9,10] [((2,0),2),((21,0),1)] ?_) (by omega) (by omega)⟩;have h2:(l.map fun w=>r.plus w r.zero).take (k+1)=(l.map fun w=>r.plus w r.zero).take k++[r.plus l[k] r.zero]:=by rw[List.take_succ_eq_append_getElem (by simpa using hk)];simp
  simp[mkSt];rw[h2];simp
 ·have:k=l.length:=by omega
  subst this;simp;rw[yfw (by simp),yfw (by simp)]
theorem zm7:∀ (l m:List Int),l.length=m.length->zhh (List.zipWith cmpI l m)=lexI l m
 | [],[],_=>rfl
 | [],y::ys,h=>by simp at h
 | x::xs,[],h=>by simp at h
 | x::xs,y::ys,h=>by
  have ih:=zm7 xs ys (by simpa using h);simp only[List.zipWith,zhh,lexI,ih,cmpI];by_cases h1:x<y
  ·simp[h1]
  ·by_cases h2:y<x
   ·simp[h1,h2]
   ·simp[h1,h2]
theorem zmq(x y:GArc):Sp P F.bu [enc x,enc y] (.pure (.int .i64 (lexI x.key y.key))):=by have h:=zxi x y;rw[show[cmpI x.f y.f,cmpI x.l y.l,cmpI x.t y.t]=List.zipWith cmpI x.key y.key from rfl,zm7 x.key y.key rfl]at h;exact h
theorem zsg{k:Int}(hk:1<=k/\k<=5):(zc5 k).si k:=by
 have:k=1\/k=2\/k=3\/k=4\/k=5:=by omega
 have h1:=zyx;rcases this with rfl|rfl|rfl|rfl|rfl
 ·rw[si1];exact⟨rfl,rfl,rfl,rfl,rfl,h1⟩
 ·rw[si2];exact⟨rfl,rfl,rfl,rfl,Int.le_refl 0,by simp[zc5,GW.cost],fun _=>rfl⟩
 ·rw[si3];exact⟨rfl,rfl,rfl,rfl,rfl,h1,by show 0<=gr0.v;rw[zqc];decide,by show gr0.v<=1;rw[zqc];decide⟩
 ·rw[si4];exact⟨rfl,rfl,rfl,rfl,rfl⟩
 ·rw[si5];exact⟨rfl,rfl,rfl,rfl,rfl,zrm⟩
theorem zda{k:Int}(hk:1<=k/\k<=5){v w:GW}(hv:v.si k)(hw:w.si k):(za3 k v w).si k:=by
 have:k=1\/k=2\/k=3\/k=4\/k=5:=by omega
 rcases this with rfl|rfl|rfl|rfl|rfl
 ·rw[si1];exact⟨rfl,rfl,rfl,rfl,rfl,ze2 _⟩
 ·unfold za3;simp only[yf0 (show ¬ (2:Int)=1 by decide),yf1];split<;>assumption
 ·unfold za3;simp only[yf0 (show ¬ (3:Int)=1 by decide),yf0 (show ¬ (3:Int)=2 by decide),yf1];split<;>assumption
 ·rw[si4];exact⟨rfl,rfl,rfl,rfl,rfl⟩
 ·rw[si5];exact⟨rfl,rfl,rfl,rfl,rfl,zdb _ (si_p hv)⟩
theorem zmn{k:Int}(hk:1<=k/\k<=5){v:GW}(hv:v.si k):za3 k v (zc5 k)=v:=by
 have:k=1\/k=2\/k=3\/k=4\/k=5:=by omega
 cases v with
 | mk q c i s p ps =>
 rcases this with rfl|rfl|rfl|rfl|rfl
 ·obtain⟨h1,h2,h3,h4,h5,h6⟩:=si1.1 hv;simp only[GW.parts_mk,GW.inf_mk,GW.cost_mk,GW.set_mk,GW.poly_mk,GW.q_mk]at h1 h2 h3 h4 h5 h6;subst h1 h2 h3 h4 h5;simp[za3,zc5,GW.q_mk,zqc,ygo,znu h6]
 ·obtain⟨h1,h2,h3,h4,h5,h6,h7⟩:=si2.1 hv;simp only[GW.parts_mk,GW.inf_mk,GW.cost_mk,GW.set_mk,GW.poly_mk,GW.q_mk]at h1 h2 h3 h4 h5 h6 h7;subst h1 h2 h3 h4;cases i
  ·simp[za3,zc5,GW.inf_mk]
  ·have:=h7 rfl;subst this;simp[za3,zc5,GW.inf_mk]
 ·obtain⟨h1,h2,h3,h4,h5,h6,h7,h8⟩:=si3.1 hv;simp only[GW.parts_mk,GW.inf_mk,GW.cost_mk,GW.set_mk,GW.poly_mk,GW.q_mk]at h1 h2 h3 h4 h5 h6 h7;have:¬ q.v<0:=yi9.2 h7;simp[za3,zc5,GW.q_mk,zqc,this]
 ·obtain⟨h1,h2,h3,h4,h5⟩:=si4.1 hv;simp only[GW.parts_mk,GW.inf_mk,GW.cost_mk,GW.poly_mk,GW.q_mk]at h1 h2 h3 h4 h5;subst h1 h2 h3 h4 h5;simp[za3,zc5,GW.set_mk]
 ·obtain⟨h1,h2,h3,h4,h5,h6⟩:=si5.1 hv;simp only[GW.parts_mk,GW.inf_mk,GW.cost_mk,GW.set_mk,GW.poly_mk,GW.q_mk]at h1 h2 h3 h4 h5 h6;subst h1 h2 h3 h4 h5;simp[za3,zc5,GW.poly_mk,padd]
theorem zgx{r:GRing}(h:r.ok=true):r.zero.chk r:=by
 by_cases h6:r.kind=6
 ·refine⟨h,fun h'=>absurd h6 h',fun _=>?_⟩;have hp:=GRing.ok_parts h h6;simp[GRing.zero,h,h6,GW.parts_mk];exact fun i hi _=>zsg (hp.2.2 _ (yfi hi))
 ·have hk:=GRing.ok_kind h h6;refine⟨h,fun _=>?_,fun h'=>absurd h' h6⟩;have:r.zero=zc5 r.kind:=by simp[GRing.zero,h,zc5,hk.2.2]
  rw[this];exact zsg ⟨hk.1,hk.2.1⟩
theorem z0e(k:Int)(n:Nat):(zc5 k).sm n:=.one k (zgm n) (zny n) (by simp)
theorem zv1{r:GRing}{n:Nat}(h:r.ok=true)(hn:3<=n):r.zero.sm n:=by
 have:r.zero=.mk gr0 0 (decide (r.kind=2)) 0 [] (r.parts.map zc5):=by simp[GRing.zero,h]
 rw[this];have hl:r.parts.length<=3:=by
  by_cases h6:r.kind=6
  ·exact(GRing.ok_parts h h6).2.1
  ·simp[(GRing.ok_kind h h6).2.2]
 refine .mk (zgm n) (zny n) (by simp) (by simp;omega) fun w hw=>?_;obtain⟨k,_,rfl⟩:=yf6.1 hw;exact z0e k n
theorem znz{r:GRing}{v w:GW}(hv:v.chk r)(hw:w.chk r):(r.plus v w).chk r:=by
 by_cases h6:r.kind=6
 ·have hp:=GRing.ok_parts hv.1 h6;have lv:=(hv.2.2 h6).1;have lw:=(hw.2.2 h6).1;refine⟨hv.1,fun h=>absurd h6 h,fun _=>?_⟩;have e:r.plus v w=.mk gr0 0 false 0 [] (zgg r.parts v.parts w.parts):=by simp[GRing.plus,h6]
  rw[e];refine⟨zbs lv lw,rfl,fun i h h'=>?_⟩;simp only[GW.parts_mk]at h' ⊢;rw[zb4 h (by omega) (by omega) h'];exact zda (hp.2.2 _ (yfi h)) ((hv.2.2 h6).2.2 i h (by omega)) ((hw.2.2 h6).2.2 i h (by omega))
 ·have hk:=GRing.ok_kind hv.1 h6;have e:r.plus v w=za3 r.kind v w:=by simp[GRing.plus,h6]
  rw[e];exact⟨hv.1,fun _=>zda ⟨hk.1,hk.2.1⟩ (hv.2.1 h6) (hw.2.1 h6),fun h=>absurd h h6⟩
theorem zdj{r:GRing}{v:GW}(hv:v.chk r):r.plus v r.zero=v:=by
 by_cases h6:r.kind=6
 ·have hp:=GRing.ok_parts hv.1 h6;obtain⟨lv,ev,sv⟩:=hv.2.2 h6;have e:r.plus v r.zero=.mk gr0 0 false 0 [] (zgg r.parts v.parts r.zero.parts):=by simp[GRing.plus,h6]
  have ez:r.zero.parts=r.parts.map zc5:=by simp[GRing.zero,hv.1,GW.parts_mk]
  rw[e,ez,ev];simp only[GW.parts_mk]
  congr 1
  refine yhq (by rw[zbs lv (by simp),lv]) fun i h1 h2=>?_;have h3:i<r.parts.length:=by rw[<- lv];exact h2
  rw[zb4 h3 h2 (by simpa using h3) h1];simp only[List.getElem_map];exact zmn (hp.2.2 _ (List.getElem_mem h3)) (sv i h3 h2)
 ·have hk:=GRing.ok_kind hv.1 h6;have e:r.plus v r.zero=za3 r.kind v r.zero:=by simp[GRing.plus,h6]
  have ez:r.zero=zc5 r.kind:=by simp[GRing.zero,hv.1,zc5,hk.2.2]
  rw[e,ez];exact zmn ⟨hk.1,hk.2.1⟩ (hv.2.1 h6)
theorem z5y{r:GRing}{v w:GW}{m n:Nat}(sv:v.sm m)(sw:w.sm n)(hv:v.chk r)(hw:w.chk r)(hm:1<=m)(hn:1<=n):(r.plus v w).sm (m+n+1):=by
 by_cases h6:r.kind=6
 ·have hp:=GRing.ok_parts hv.1 h6;have lv:=(hv.2.2 h6).1;have lw:=(hw.2.2 h6).1;have e:r.plus v w=.mk gr0 0 false 0 [] (zgg r.parts v.parts w.parts):=by simp[GRing.plus,h6]
  have hl:=zbs (ks:=r.parts) (vs:=v.parts) (ws:=w.parts) lv lw;rw[e];refine .tup (by rw[hl,<- lv];have:=sv.plen;omega) fun x hx=>?_;obtain⟨i,hi,rfl⟩:=yjp.1 hx;have h3:i<r.parts.length:=by omega
  rw[zb4 h3 (by omega) (by omega) hi];exact zs4 (sv.parts _ (yfi _)) (sw.parts _ (yfi _)) (zuk hv h6 h3 (by omega)) (zuk hw h6 h3 (by omega)) hm hn
 ·have hk:=GRing.ok_kind hv.1 h6;have e:r.plus v w=za3 r.kind v w:=by simp[GRing.plus,h6]
  have er:r=⟨r.kind,[]⟩:=by rw[<- hk.2.2]
  rw[e];rw[er]at hv hw;exact zs4 sv sw hv hw hm hn
section
variable {α : Type} {key : α -> List Int}
def zf8(key : α -> List Int)(l:List α)(i:Nat):List α := srt key (l.take i)++l.drop i
theorem z2b(s:List α)(x : α):(insR key s x).length=s.length+1:=by
 induction s with
 | nil=>rfl
 | cons z r ih=>simp only[insR];split<;>simp[ih]
theorem z2a{s:List α}{x y : α}:y∈insR key s x ↔ y=x\/y∈s:=by
 induction s with
 | nil=>simp[insR]
 | cons z r ih =>
  simp only[insR];split
  ·simp
  ·simp only[yf4,ih];exact⟨fun h=>by rcases h with h|h|h<;>simp[h],fun h=>by rcases h with h|h|h<;>simp[h]⟩
theorem zsy(l:List α)(x : α):srt key (l++[x])=insR key (srt key l) x:=by simp[srt,yh5]
theorem zdg(l:List α):Srt key (srt key l)/\(srt key l).length=l.length/\∀ y,y∈srt key l ↔ y∈l:=by
 have:∀ (n:Nat) (l:List α),l.length=n->Srt key (srt key l)/\(srt key l).length=l.length/\∀ y,y∈srt key l ↔ y∈l:=by
  intro n
  induction n with
  | zero=>intro l hl;have:=yii hl;subst this;simp[srt,Srt]
  | succ n ih =>
   intro l hl;obtain⟨l',y,rfl⟩:∃ l' y,l=l'++[y]:=⟨l.dropLast,l.getLast (by intro h;simp[h]at hl),(List.dropLast_concat_getLast _).symm⟩;obtain⟨h1,h2,h3⟩:=ih l' (by simpa using hl);rw[zsy];refine⟨zlh h1,by rw[z2b,h2];simp,fun z=>?_⟩;rw[z2a,h3];simp[or_comm]
 exact this _ l rfl
theorem zuu(l:List α):zf8 key l 1=l:=by cases l<;>simp[zf8,srt,insR]
theorem zwq{l:List α}{i:Nat}(h:l.length<=i):zf8 key l i=srt key l:=by unfold zf8;rw[yfw h,yhf h,yia]
theorem zwp{l:List α}{i:Nat}(h:i<l.length):zf8 key l i=srt key (l.take i)++l[i]::l.drop (i+1):=by unfold zf8;rw[yho h]
theorem zkj{l:List α}{i:Nat}(h:i<l.length):zf8 key l (i+1)=insR key (srt key (l.take i)) l[i]++l.drop (i+1):=by unfold zf8;rw[yfu h,zsy]
theorem zrv{x : α}{B:List α}(hB:∀ b∈B,key x<key b):∀ {A:List α},(∀ a∈A,¬ key x<key a)->insR key (A++B) x=A++x::B
 | [],_=>by
  cases B with
  | nil=>rfl
  | cons b B=>simp[insR,hB b (by simp)]
 | a::A,h=>by have:=zrv hB (A:=A) fun y hy=>h y (by simp[hy]);simp[insR,h a (by simp),this]
theorem zwk(A B:List α)(z x : α)(rest:List α):((A++[z]++x::(B++rest)).set (A.length+1) z).set A.length x=A++x::((z::B)++rest):=by simp[yhr]
end
section
variable {α : Type} {key : α -> List Int} {up : α -> α -> α} {nw : α -> α}
theorem zx3:∀ {out:List α} {x y : α},x∈mst key up nw out y->x∈out\/x=nw y\/∃ z∈out,x=up z y
 | [],x,y,h=>by simp[mst]at h;exact .inr (.inl h)
 | [z],x,y,h=>by
  simp only[mst]at h;split at h
  ·simp at h;exact .inr (.inr ⟨z,by simp,h⟩)
  ·simp at h;rcases h with h|h
   ·exact .inl (by simp[h])
   ·exact .inr (.inl h)
 | z::w::r,x,y,h=>by
  rw[zk4 z y (by simp)]at h;rcases yf4.1 h with h|h
  ·exact .inl (by simp[h])
  ·rcases zx3 h with h|h|⟨u,h,e⟩
   ·exact .inl (ygk _ h)
   ·exact .inr (.inl h)
   ·exact .inr (.inr ⟨u,ygk _ h,e⟩)
theorem ztw:∀ {out:List α} {x y : α},x∈insF key up nw out y->x∈out\/x=nw y\/∃ z∈out,x=up z y
 | [],x,y,h=>by simp[insF]at h;exact .inr (.inl h)
 | z::r,x,y,h=>by
  simp only[insF]at h;split at h
  ·rcases yf4.1 h with h|h
   ·exact .inl (by simp[h])
   ·rcases ztw h with h|h|⟨u,h,e⟩
    ·exact .inl (ygk _ h)
    ·exact .inr (.inl h)
    ·exact .inr (.inr ⟨u,ygk _ h,e⟩)
  ·split at h
   ·rcases yf4.1 h with h|h
    ·exact .inr (.inr ⟨z,by simp,h⟩)
    ·exact .inl (ygk _ h)
   ·rcases yf4.1 h with h|h
    ·exact .inr (.inl h)
    ·exact .inl h
theorem zmw(out:List α)(y : α):(mst key up nw out y).length<=out.length+1:=by
 match out with
 | []=>simp[mst]
 | [z]=>simp only[mst];split<;>simp
 | z::w::r =>
  rw[zk4 z y (by simp)];have:=zmw (w::r) y;simp only[yg2]at this ⊢;omega
theorem zh2{l:List α}{k:Nat}(h:k<l.length):mrg key up nw (l.take (k+1))=mst key up nw (mrg key up nw (l.take k)) l[k]:=by rw[yfu h,ztj]
theorem zn4{l:List α}{k:Nat}(h:k<l.length):nfm key up nw (l.take (k+1))=insF key up nw (nfm key up nw (l.take k)) l[k]:=by rw[yfu h];unfold nfm;rw[yh5];rfl
theorem zrr{Q:Nat -> α -> Prop}(hm:∀ k x,Q k x->Q (k+1) x){l:List α}(hn:∀ x∈l,Q 0 (nw x))(hu:∀ k z,∀ x∈l,Q k z->Q (k+1) (up z x))(h0:∀ k x,Q 0 x->Q k x) :
  ∀ k,k<=l.length->(mrg key up nw (l.take k)).length<=k/\∀ x∈mrg key up nw (l.take k),Q k x
 | 0,_=>by simp[mrg]
 | k+1,h=>by
  obtain⟨i1,i2⟩:=zrr hm hn hu h0 k (by omega);have hk:k<l.length:=by omega
  rw[zh2 hk];refine⟨yf7 (zmw _ _) (by omega),fun x hx=>?_⟩;rcases zx3 hx with h|h|⟨z,h,e⟩
  ·exact hm _ _ (i2 x h)
  ·rw[h];exact h0 _ _ (hn _ (yfi hk))
  ·rw[e];exact hu _ _ _ (yfi hk) (i2 z h)
end
end Go.Ab
namespace Go.Ab
open Enc (enc)
attribute [local simp] zai Opd.slots
section
variable {α : Type} [Enc α]
theorem zoi(hsz:Enc.sz α = 11)(hone:∀ x : α,(enc x).cells.all PV.one=true)(key : α -> List Int)(cf:FuncId)(l:List α)(hl:l.length<=1000000)
  (hc:∀ x∈l,∀ y∈l,∃ n:Int,Sp P cf [enc x,enc y] (.pure (.int .i64 n))/\(n<0 ↔ key x<key y)) :
  SpM P F.gw [.sl (ens l),.int .i64 0,.int .i64 l.length,.fn cf []] 0 11 (ens (srt key l)) (.pure (.tup [])):=by
 have hs1:∀ x : α,(enc x).sz=11:=fun x=>by rw[Enc.ok,hsz]
 have ew1:IntKind.i64.wrap 1=1:=i64w (by omega) (by omega);refine SpM.of_vm c.gw (by simp) rfl (by simp[(zdg l).2.1]) ?_;simp[g.gw]
 refine zaj (S:=fun i:Nat=>mkSt [(0,.own PIN 0 0 l.length),(1,.p (.int .i64 0)),(2,.p (.int .i64 l.length)),(3,.p (.fn cf [])),(8,.p (.int .i64 i))] [(PIN,⟨11,avs (zf8 key l i)⟩)]) (I:=fun i=>1<=i) (m:=fun i=>l.length+1 - i) 1
  (Weak.to [0,1,2,3,8] [((PIN,0),PIN)] (by simp[zuu,ew1])) (by omega) ?_
 rintro i h1 R hn hr hx;simp[g.qu,mkSt];refine⟨fun hi=>?_,fun hi=>hx _ _ ?_⟩;rotate_left
 ·simp[zwq hi]
 have e1:=i64s i;have hsi:=zdg (key:=key) (l.take i);have hsl:(srt key (l.take i)).length=i:=by rw[hsi.2.1];simp;omega
 have hend:∀ (L:List α) (v:AV),L=zf8 key l (i+1)->v=.p (.int .i64 ((i+1:Nat):Int))->R .normal ⟨[(0,.own 999998 0 0 l.length),(1,.p (.int .i64 0)),(2,.p (.int .i64 l.length)),(3,.p (.fn cf [])),(8,v)],[(999998,[some ⟨11,avs L⟩]),(999999,[none])]⟩:=by rintro L v rfl rfl;exact hn (i+1) _ (Weak.to [0,1,2,3,8] [((PIN,0),PIN)] (by simp)) (by omega) (by omega)
 refine zaj (S:=fun x:List α × Nat=>mkSt [(0,.own PIN 0 0 l.length),(1,.p (.int .i64 0)),(2,.p (.int .i64 l.length)),(3,.p (.fn cf [])),(8,.p (.int .i64 i)),(9,.p (.int .i64 x.2))] [(PIN,⟨11,avs x.1⟩)])
  (I:=fun x=>∃ A B,x.1=A++l[i]::(B++l.drop (i+1))/\x.2=A.length/\A++B=srt key (l.take i)/\∀ b∈B,key l[i]<key b) (m:=fun x=>x.2) (zf8 key l i,i)
  (Weak.to [0,1,2,3,8,9] [((PIN,0),PIN)] (by simp)) ⟨srt key (l.take i),[],by rw[zwp hi];simp,hsl.symm,by simp,by simp⟩ ?_
 rintro⟨L,j⟩ ⟨A,B,hL,hj,hAB,hB⟩ R2 hn2 hr2 hx2;simp only at hL hj;have hLl:L.length=l.length:=by have:=congrArg List.length hAB;rw[hL];simp at this ⊢;rw[hsi.2.1]at this;simp at this;omega
 have hLm:∀ y∈L,y∈l:=by
  intro y hy;rw[hL]at hy;simp only[yfk,yf4]at hy;have hm:∀ y,y∈A++B->y∈l:=fun y hy=>by rw[hAB,hsi.2.2]at hy;exact ygb hy
  rcases hy with h|h|h|h
  ·exact hm y (by simp[h])
  ·rw[h];exact yfi hi
  ·exact hm y (by simp[h])
  ·exact yga h
 have hjl:j<l.length:=by rw[<- hLl,hL,hj];simp
 rcases yka A with rfl|⟨A',z,rfl⟩
 ·
  simp at hj;subst hj;simp[g.oq,mkSt];refine hx2 _ _ ?_;simp[e1];refine hend L _ ?_ rfl;rw[zkj hi,<- hAB,zrv hB (by simp),hL];simp
 ·simp only[ykb]at hj hL hAB;simp at hj;subst hj;have hx0:L[A'.length+1]?=some l[i]:=by rw[hL];simp
  have hz0:L[A'.length]?=some z:=by rw[hL];simp
  have hzl:z∈l:=hLm z (by rw[hL];simp);obtain⟨n,hn3,hn4⟩:=hc l[i] (yfi hi) z hzl;have hl0:A'.length+1<l.length:=hjl;have e3:IntKind.i64.wrap (A'.length:Int)=(A'.length:Nat):=i64w (by omega) (by omega);have e4:((A'.length:Int)+1).toNat=A'.length+1:=by omega
  have hgt:(0:Int)<(A'.length:Int)+1:=by omega
  simp[g.oq,mkSt,e3,hLl,hl0,show A'.length<l.length by omega,e4,hgt];refine⟨by omega,zie hx0 ?_⟩;refine zie hz0 ?_;refine zaa hn3 rfl ?_;by_cases hlt:n<0
  ·simp[hlt,e3,e4,hLl,hl0,show A'.length<l.length by omega];refine zie hz0 ?_;refine⟨by omega,zie hx0 ?_⟩;refine⟨by omega,zie hx0 ?_⟩;refine⟨hs1 z,?_⟩;rw[zeb];refine zie (x:=.p (enc z)) (by simp[z7v,hz0]) ?_;simp only[z8t];refine⟨hs1 _,?_⟩;simp[e3];refine hn2 ((L.set (A'.length+1) z).set A'.length l[i],A'.length) _ (Weak.to [0,1,2,3,8,9] [((PIN,0),PIN)] (by simp)) ⟨A',z::B,?_,rfl,?_,?_⟩ (by simp)
   ·rw[hL];exact zwk A' B z l[i] _
   ·rw[<- hAB];simp
   ·intro b hb;rcases yf4.1 hb with rfl|hb
    ·exact hn4.1 hlt
    ·exact hB b hb
  ·simp[hlt];refine hx2 _ _ ?_;simp[e1];refine hend L _ ?_ rfl;have hnk:¬ key l[i]<key z:=fun h=>hlt (hn4.2 h);rw[zkj hi,<- hAB,zrv hB,hL]
   ·simp
   ·intro a ha;simp only[yfk,ygj]at ha;rcases ha with ha|rfl
    ·intro hk;have hs0:=hsi.1;rw[<- hAB]at hs0;have:=(ygz.1 (ygz.1 hs0).1).2.2 a ha z (by simp);exact hnk (zlf hk this)
    ·exact hnk
end
section
variable {α : Type} [Enc α]
theorem zl2(hsz:Enc.sz α = 11)(hone:∀ x : α,(enc x).cells.all PV.one=true)(key : α -> List Int)(cf:FuncId)(l:List α)(hl:l.length<=19)
  (hc:∀ x∈l,∀ y∈l,∃ n:Int,Sp P cf [enc x,enc y] (.pure (.int .i64 n))/\(n<0 ↔ key x<key y)) :
  SpM P F.kj [.sl (ens l),.int .i64 l.length,.fn cf []] 0 11 (ens (srt key l)) (.pure (.tup [])):=by
 refine SpM.of_vm c.kj (by simp) rfl (by simp[(zdg l).2.1]) ?_;simp[g.kj];refine zhb fun R hn hr hx=>?_;simp[g.qn,show ¬ (20<=(l.length:Int)) by omega];refine hx _ _ ?_;simp;refine zfe (zoi hsz hone key cf l (by omega) hc) (by simp) rfl rfl (by simp) (by simp) (by simp[(zdg l).2.1]) rfl (zgw _ _ hsz) (cells_one hone _) (by simp) ?_;simp;refine zhb fun R2 hn2 hr2 hx2=>?_;simp[g.qo,show ¬ (20<(l.length:Int)) by omega];refine hx2 _ _ ?_;simp
theorem zns(hsz:Enc.sz α = 11)(hone:∀ x : α,(enc x).cells.all PV.one=true)(key : α -> List Int)(cf:FuncId)(l:List α)(hl:l.length<=19)
  (hc:∀ x∈l,∀ y∈l,∃ n:Int,Sp P cf [enc x,enc y] (.pure (.int .i64 n))/\(n<0 ↔ key x<key y)) :
  SpM P F.j6 [.sl (ens l),.fn cf []] 0 11 (ens (srt key l)) (.pure (.tup [])):=by
 refine SpM.of_vm c.j6 (by simp) rfl (by simp[(zdg l).2.1]) ?_;simp[g.j6];refine zfe (zl2 hsz hone key cf l hl hc) (by simp) rfl rfl (by simp) (by simp) (by simp[(zdg l).2.1]) rfl (zgw _ _ hsz) (cells_one hone _) (by simp) ?_;simp
end
def gw0':GW:=.mk ⟨false,[],[]⟩ 0 false 0 [] []
theorem zql(df:FuncId)(caps:List PV)(p:GArc->Bool)(l:List GArc)(hl:l.length<=1000000)(hp:∀ x∈l,Sp P df (enc x::caps) (.pure (.bool (p x)))) :
  SpM P F.j7 [.sl (ens l),.fn df caps] 0 11 (ens (l.filter (fun x => !p x)++List.replicate (l.length - (l.filter fun x => !p x).length) (⟨0,0,0,gw0'⟩:GArc))) (.same (l.filter fun x => !p x).length):=by
 have hfl:(l.filter fun x => !p x).length<=l.length:=yh3 _ _;refine SpM.of_vm c.j7 (by simp) rfl (by simp;omega) ?_;simp[g.j7];refine zaf (zjc l df caps p (by omega) hp) ?_;cases hi:l.findIdx? p with
 | none =>
  have hn:=yk4.1 hi;have hf:l.filter (fun x => !p x)=l:=yjo.2 fun x hx=>by simp[hn x hx]
  have hx:idxI p l = -1:=by simp[idxI,hi]
  simp[hx,hf]
 | some k =>
  obtain⟨hk,hpk,hbef⟩:=yk5.1 hi;have hx:idxI p l=k:=by simp[idxI,hi]
  have hne:¬ ((k:Int) = -1):=by omega
  have e1:=i64s k;simp[hx,hne,e1];have htk:(l.take k).filter (fun x => !p x)=l.take k:=List.filter_eq_self.2 fun x hx=>by rw[List.mem_take_iff_getElem]at hx;obtain⟨i,hi,rfl⟩:=hx;have:=hbef i (by omega);simpa using this
  have htk1:(l.take (k+1)).filter (fun x => !p x)=l.take k:=by rw[yfu hk,yiq,htk];simp[hpk]
  refine zaj (S:=fun x:List GArc × Nat × Nat=>mkSt [(0,.own PIN 0 0 l.length),(1,.p (.fn df caps)),(5,.p (.int .i64 x.2.1)),(6,.p (.int .i64 x.2.2))] [(PIN,⟨11,avs x.1⟩)])
   (I:=fun x=>x.1.length=l.length/\x.2.1<x.2.2/\x.2.2<=l.length/\x.1.take x.2.1=(l.take x.2.2).filter (fun x => !p x)/\x.1.drop x.2.2=l.drop x.2.2/\x.2.1<=l.length) (m:=fun x=>l.length - x.2.2) (l,k,k+1)
   (Weak.to [0,1,5,6] [((PIN,0),PIN)] (by simp)) ⟨rfl,by simp,by simp;omega,by rw[htk1],rfl,by simp;omega⟩ ?_
  rintro⟨L,i,j⟩ ⟨h1,h2,h3,h4,h5,h6⟩ R hn hr hx2;simp only at h1 h2 h3 h4 h5 h6;simp[g.qj,mkSt];refine⟨fun hj=>?_,fun hj=>hx2 _ _ ?_⟩
  ·have e2:=i64s j;have e3:=i64s i;have hjL:L[j]?=some l[j]:=by
    have:(L.drop j)[0]?=(l.drop j)[0]?:=by rw[h5]
    simpa[hj]using this
   refine⟨by omega,zie hjL ?_⟩
   try simp
   refine zaa (hp l[j] (yfi hj)) (zb5 (by simp) (zfm _ _)) ?_;have htj:(l.take (j+1)).filter (fun x => !p x)=(l.take j).filter (fun x => !p x)++(if p l[j]then[]else[l[j]]):=by rw[yfu hj,yiq];by_cases h:p l[j]<;>simp[h]
   rcases yge (p l[j])with h7|h7
   ·simp[h7,e2];refine hn (L,i,j+1) _ (Weak.to [0,1,5,6] [((PIN,0),PIN)] (by simp)) ⟨h1,by show i<j+1;omega,by show j+1<=l.length;omega,by show L.take i=_;rw[htj,h4];simp[h7],?_,h6⟩ (by show l.length - (j+1)<l.length - j;omega);show L.drop (j+1)=l.drop (j+1);rw[<- List.drop_drop,h5,ygp]
   ·simp[h7];refine⟨by omega,?_⟩;refine zie (l:=L) (n:=i) (x:=L[i]'(by omega)) (by simp) ?_;simp[e2,e3];have htki:(L.set i l[j]).take (i+1)=L.take i++[l[j]]:=by rw[yfu (by simp;omega),List.take_set_of_le (yf8 i)];simp
    refine hn (L.set i l[j],i+1,j+1) _ (Weak.to [0,1,5,6] [((PIN,0),PIN)] (by simp)) ⟨by simp[h1],by show i+1<j+1;omega,by show j+1<=l.length;omega,by show(L.set i l[j]).take (i+1)=_;rw[htki,htj,h4];simp[h7],?_,by show i+1<=l.length;omega⟩ (by show l.length - (j+1)<l.length - j;omega);show(L.set i l[j]).drop (j+1)=l.drop (j+1);rw[List.drop_set_of_lt (by omega),<- List.drop_drop,h5,ygp]
  ·have hjl:j=l.length:=by omega
   subst hjl;rw[yfs]at h4;have hil:i=(l.filter fun x => !p x).length:=by rw[<- h4];simp;omega
   generalize (l.filter fun x => !p x)=D at *
   subst hil;have ht:(avs L).take D.length=avs D:=by rw[zuo,h4]
   have hm1:min D.length l.length=D.length:=yhj h6;have hm2:D.length+(l.length - D.length)=l.length:=by omega
   simp[h1,h6,hm2,h4];have hdl:L.drop l.length=[]:=by rw[<- h1];simp
   rw[hdl,z7u,yia];rfl
end Go.Ab
namespace Go.Ab
open Enc (enc)
@[simp] theorem z8u{P:Program}{N:Nat}{Q:Exit->St->Prop}{α : Type}[Enc α](o:List α)(x:AV)(f:AV->Outc)(d:Option Nat)(dd:List (List Nat))(ks:List Kt):vmO P N Q (.el (avs o++[x]) o.length f) d dd ks=vmO P N Q (f x) d dd ks:=by
 have:(avs o++[x])[o.length]?=some x:=by rw[yhg (by simp)];simp
 simp only[vmO,runO,this];exact propext ⟨fun⟨e,h,k⟩=>by cases h;exact k,fun k=>⟨_,rfl,k⟩⟩
@[simp] theorem ybs{α : Type}[Enc α](o:List α)(x y:AV):(avs o++[x]).set o.length y=avs o++[y]:=by rw[yk6 _ _ (by simp)];simp
theorem z0y{α : Type}[Enc α](l:List α)(r:List α):((ens (l++r)).map AV.p).take l.length=avs l:=by simp[-zat,avs,ens]
theorem zqx{st:St}{f:FuncId}{e:Nat}{vs:List AV}{args:List PV}{sz:Nat}{es:List PV}{K:PCall->AV->St->Prop}(hs:Sp P f args (.fresh sz es))(hv:vs.mapM (toPV st FUEL)=some args)
  (h:es.all (fun v=>v.sz == sz)=true/\0<sz/\es.length<=LIM) (h0:vs.flatMap (deps st FUEL)=[])
  (k:K ⟨f,args,.fresh sz es,none⟩ (.own e (st.site e).length 0 es.length) (st.alloc e ⟨sz,es.map .p⟩)):zg8 P st e f vs K :=
 zc8 hs hv h st (by rw[h0];simp[killAll]) k
theorem zvv{st:St}{f:FuncId}{e:Nat}{vs:List AV}{args:List PV}{i sz:Nat}{es':List PV}{r:PV}{K:PCall->AV->St->Prop}(hs:SpM P f args i sz es' (.pure r))(hv:vs.mapM (toPV st FUEL)=some args)
  {s g len:Nat} {sl:Bool} (href:zi5 vs[i]?=some (s,g,len,sl)) {o:AObj} (ho:st.obj s g=some o) (hi:i<vs.length) (hl:len=o.es.length) (hl2:es'.length=len) (hsz:o.sz=sz) (hall:es'.all (fun v=>v.sz == sz)=true) (hone:(es'.flatMap PV.cells).all PV.one=true)
  (h0:(vs.eraseIdx i).flatMap (deps st FUEL)++o.es.flatMap (deps st 5)=[])
  (k:K ⟨f,args,.pure r,some (i,sz,es')⟩ (.p r) (st.setObj s g ⟨sz,es'.map .p⟩)):zg8 P st e f vs K:=by
 refine zfe hs hv href ho hi hl hl2 hsz hall hone (by rw[h0];rfl) ?_;rw[h0];simpa[killAll]using k
theorem zwe(x:GArc)(r:GRing)(hw:x.w.sm 1048576):Sp P F.gi [enc x,.ref (enc r)] (.pure (.bool (decide (x.w=r.zero)))):=by refine Sp.of_vmW c.gi (by simp) (Weak.openRef (t:=1) (v:=enc r) (n:=2) (by simp) (by simp)) ?_;simp[g.gi];refine zaf (ziu r x.w hw) ?_;simp
def upA(r:GRing)(z y:GArc):GArc:=⟨z.f,z.l,z.t,r.plus z.w y.w⟩
noncomputable def tidA(r:GRing)(l:List GArc):List GArc:=(mrg GArc.key (upA r) id (srt GArc.key l)).filter fun x => !decide (x.w=r.zero)
theorem zwf{r:GRing}{n:Nat}(hn1:1<=n){l:List GArc}(h:∀ x∈l,x.w.sm n/\x.w.chk r)(k:Nat)(hk:k<=l.length) :
  (mrg GArc.key (upA r) id (l.take k)).length<=k/\∀ x∈mrg GArc.key (upA r) id (l.take k),x.w.sm ((k+1)*(n+1))/\x.w.chk r:=by
 refine zrr (up:=upA r) (nw:=id) (Q:=fun k x=>x.w.sm ((k+1)*(n+1))/\x.w.chk r) (fun k x hx=>⟨hx.1.mono (yg7 _ (by omega)),hx.2⟩) (fun x hx=>⟨(h x hx).1.mono (by omega),(h x hx).2⟩) (fun k z x hx hz=>⟨?_,(znz hz.2 (h x hx).2:(r.plus z.w x.w).chk r)⟩) (fun k x hx=>⟨hx.1.mono (yg7 _ (by omega)),hx.2⟩) k hk;have:=z5y hz.1 (h x hx).1 hz.2 (h x hx).2 (yf7 hn1 (by rw[ygf];omega)) hn1;have e:(k+1)*(n+1)+n+1=(k+1+1)*(n+1):=by rw[ygf (k+1) 1];omega
 rw[<- e];exact this
theorem z0t(r:GRing)(l:List GArc)(n:Nat)(hn:n<=90)(hn1:3<=n)(hl:l.length<=19)(h:∀ x∈l,x.w.sm n/\x.w.chk r) :
  Sp P F.ju [enc r,.sl (ens l)] (.pure (.sl (ens (tidA r l)))):=by
 have hs:=zdg (key:=GArc.key) l;have h':∀ x∈srt GArc.key l,x.w.sm n/\x.w.chk r:=fun x hx=>h x ((hs.2.2 x).1 hx);have inv:=zwf (by omega) h';unfold tidA;generalize hS:srt GArc.key l=S at *
 have hSl:S.length=l.length:=hs.2.1;have hone:∀ x:GArc,(enc x).cells.all PV.one=true:=fun x=>by simp[PV.cells]
 refine Sp.vz c.ju fun _=>?_;simp[g.ju];refine zqx (zoy l (by omega)) (by simp) ⟨zgw _ _ rfl,by decide,by simp[-zat,ens,LIM];omega⟩ (by simp) ?_;simp;refine zvv (zns rfl hone GArc.key F.bu l hl fun x hx y hy=>⟨_,zmq x y,zyg rfl⟩) (by simp) rfl rfl (by simp) (by simp) (by simp[hS,hSl]) rfl (zgw _ _ rfl) (cells_one hone _) (by simp) ?_;simp;rw[hS];have hone':3<=n+1:=by omega
 refine zaj (S:=fun k:Nat=>mkSt [(2,.ptr 2 0 0 0),(6,.own 1 0 0 (mrg GArc.key (upA r) id (S.take k)).length),(14,.own 3 0 0 S.length),(15,.p (.int .i64 S.length)),(16,.p (.int .i64 k))] [(2,⟨2,[.p (enc r)]⟩),(1,⟨11,avs (mrg GArc.key (upA r) id (S.take k))⟩),(3,⟨11,avs S⟩)]) (I:=fun k=>k<=S.length) (m:=fun k=>S.length - k) 0
  (Weak.nl 6 77 11 rfl (Weak.to [2,6,14,15,16] [((2,0),2),((77,0),1),((11,0),3)] (by simp[hSl,mrg]))) (by omega) ?_
 rintro k h1 R hn' hr hx;have e3:=i64s k;obtain⟨iv1,iv2⟩:=inv k h1;generalize hO:mrg GArc.key (upA r) id (S.take k)=O at *
 by_cases hk:k<S.length;rotate_left
 ·have:k=S.length:=by omega
  subst this;rw[yfw (yf8 _)]at hO;rw[hO]at hx hr;have hb:(O.length+1)*(n+1)<=1048576:=by have:=yfz (show O.length+1<=20 by omega) (show n+1<=91 by omega);omega
  have hb2:(S.length+1)*(n+1)<=1048576:=by have:=yfz (show S.length+1<=20 by omega) (show n+1<=91 by omega);omega
  simp[g.ng,mkSt];refine hx _ _ ?_;simp;refine zvu (zql F.gi [.ref (enc r)] (fun x=>decide (x.w=r.zero)) O (by omega) fun x hx=>zwe x r ((iv2 x hx).1.mono hb2)) (by simp[zhz,znm]) rfl rfl (by simp) (by simp) (by simp;have:=yh3 (fun x:GArc => !decide (x.w=r.zero)) O;omega) rfl (zgw _ _ rfl) (cells_one hone _) (by simp) (yh3 _ _) ?_;generalize hF:O.filter (fun x => !decide (x.w=r.zero))=F0 at *
  have hFl:F0.length<=O.length:=by rw[<- hF];exact yh3 _ _
  have hA1:=z0y F0 (List.replicate (O.length - F0.length) (⟨0,0,0,gw0'⟩:GArc));have hA2:F0.length<=(ens (F0++List.replicate (O.length - F0.length) (⟨0,0,0,gw0'⟩:GArc))).length:=by simp[-zat,ens]
  generalize ens (F0++List.replicate (O.length - F0.length) (⟨0,0,0,gw0'⟩:GArc))=A0 at *
  cases hfl:A0.all PV.flat
  ·simp[killAll];rw[hA1];simp[hA2]
  ·simp;rw[hA1];simp[hA2]
 have hw:=h' _ (yfi hk);have hnx:=zh2 (key:=GArc.key) (up:=upA r) (nw:=id) hk;rw[hO]at hnx;have cz:=zgx hw.2.1;have sz:=zv1 (n:=n) hw.2.1 hn1;have pz:=zdj hw.2;rcases yka O with rfl|⟨o,z,rfl⟩
 ·simp[g.ng,mkSt,hk];refine zad hk ?_;refine zaa (zgy r) rfl ?_;simp;refine zaf (zjz r S[k].w r.zero n hw.1 sz (by omega) (by omega) hw.2 cz) ?_;rw[pz];simp[e3];refine hn' (k+1) _ (Weak.to [2,6,14,15,16] [((2,0),2),((59,0),1),((3,0),3)] ?_) (by omega) (by omega);rw[hnx];simp[mkSt,mst]
 ·have e4:IntKind.i64.wrap (o.length:Int)=(o.length:Int):=i64w (by omega) (by simp at iv1;omega);simp[g.ng,mkSt,hk,e4];refine zad hk ?_;refine zaf (zmq z S[k]) ?_;simp[e4];have hz:=iv2 z (by simp);have hb2:(k+1)*(n+1)<=2000:=by have:=yfz (show k+1<=20 by omega) (show n+1<=91 by omega);omega
  have hb3:n<=(k+1)*(n+1):=by rw[ygf];omega
  have hle:lexI z.key S[k].key=0 ↔ z.key=S[k].key:=zyh (by simp[GArc.key]);refine⟨fun h0=>?_,fun h0=>?_⟩
  ·rw[ykb,zrq (key:=GArc.key) (z:=z) (y:=S[k]) (hle.1 h0)]at hnx;refine zaf (zjz r z.w S[k].w _ hz.1 (hw.1.mono hb3) hb2 (by omega) hz.2 hw.2) ?_;simp[e3];refine hn' (k+1) _ (Weak.to [2,6,14,15,16] [((2,0),2),((1,0),1),((3,0),3)] ?_) (by omega) (by omega);rw[hnx];simp[mkSt,upA]
  ·rw[ykb,zn5 (key:=GArc.key) (z:=z) (y:=S[k]) (fun h=>h0 (hle.2 h))]at hnx;refine zaa (zgy r) rfl ?_;simp;refine zaf (zjz r S[k].w r.zero n hw.1 sz (by omega) (by omega) hw.2 cz) ?_;rw[pz];simp[e3];refine⟨by simp at iv1;omega,hn' (k+1) _ (Weak.to [2,6,14,15,16] [((2,0),2),((59,0),1),((3,0),3)] ?_) (by omega) (by omega)⟩;rw[hnx];simp[mkSt]
structure GAuto.ok (a:GAuto):Prop where
 ring:a.ring.ok=true
 sy1:1<=a.sy
 sy2:a.sy<=32
 st1:0<=a.st
 st2:a.st<=64
 il:(a.ini.length:Int)=a.st
 fl:(a.fin.length:Int)=a.st
 al:a.arcs.length<=2048
 arcs:∀ x∈a.arcs,inA x a
 ini:∀ w∈a.ini,w.chk a.ring
 fin:∀ w∈a.fin,w.chk a.ring
theorem z7y{r:GRing}{l:List GW}:(!l.any fun w => !decide (w.chk r))=true ↔ ∀ w∈l,w.chk r:=by simp
theorem GAuto.vb_iff{a:GAuto}:a.vb=true ↔ a.ok:=by
 unfold GAuto.vb;simp only[yfr,decide_eq_true_eq,z7y];constructor
 ·rintro⟨h1,h2,h3,h4,h5,h6,h7,h8,h9,h10,h11⟩;exact⟨h1,h2,h3,h4,h5,h6,h7,h8,fun x hx=>by simpa using (by simpa using h9:∀ x∈a.arcs,inA x a) x hx,h10,h11⟩
 ·rintro⟨h1,h2,h3,h4,h5,h6,h7,h8,h9,h10,h11⟩;exact⟨h1,h2,h3,h4,h5,h6,h7,h8,by simpa using h9,h10,h11⟩
def zt4:GAuto:=⟨⟨0,[]⟩,0,0,[],[],[]⟩
noncomputable def GAuto.nf(a:GAuto):GAuto:=⟨a.ring,a.sy,a.st,a.ini,a.fin,tidA a.ring a.arcs⟩
theorem GAuto.sm.mono{a:GAuto}{m n:Nat}(h:a.sm m)(k:m<=n):a.sm n:=⟨fun w hw=>(h.ini w hw).mono k,fun w hw=>(h.fin w hw).mono k,fun x hx=>(h.arcs x hx).mono k⟩
theorem z7o{r:GRing}{l:List GW}(h:∀ w∈l,w.chk r):(l.map fun w=>r.plus w r.zero)=l:=by have:(l.map fun w=>r.plus w r.zero)=l.map id:=ygc fun w hw=>zdj (h w hw);rw[this,List.map_id]
theorem z6f{r:GRing}(h:r.ok=true):r.parts.length<=3:=by
 by_cases h6:r.kind=6
 ·exact(GRing.ok_parts h h6).2.1
 ·simp[(GRing.ok_kind h h6).2.2]
theorem zuh(r:GRing)(l:List GW)(n:Nat)(hn:n<=90)(hn1:3<=n)(hr:r.ok=true)(hl:l.length<=64)(h:∀ w∈l,w.sm n)(c:∀ w∈l,w.chk r):Sp P F.fu [enc r,.sl (ens l)] (.pure (.sl (ens l))):=by
 have k:=z3d r l n (by omega) (by omega) (by omega) (fun w hw=>⟨h w hw,c w hw⟩) (zv1 hr hn1) (zgx hr)
 rwa[z7o c]at k
theorem zmu(a:GAuto)(n:Nat)(hn:n<=90)(hn1:3<=n)(h:a.sm n)(hl:a.arcs.length<=19) :
  Sp P F.fe [enc a] (.pure (.tup [enc (if a.vb then a.nf else zt4),.int .i64 (if a.vb then 0 else 4)])):=by
 refine Sp.vz c.fe fun _=>?_;simp[g.fe];refine zaf (zv7 a (h.mono (by omega))) ?_;cases hv:a.vb
 ·simp[zt4]
 have ok:=GAuto.vb_iff.1 hv;have i1:=ok.il;have i2:=ok.fl;have i3:=ok.st2
 simp;refine zaf (z1e a.ring (by have:=z6f ok.ring;omega)) ?_;simp;refine zaf (zuh a.ring a.ini n hn hn1 ok.ring (by omega) h.ini ok.ini) ?_;simp;refine zaf (zuh a.ring a.fin n hn hn1 ok.ring (by omega) h.fin ok.fin) ?_;simp;refine zaf (z0t a.ring a.arcs n hn hn1 hl fun x hx=>⟨h.arcs x hx,(ok.arcs x hx).2.2.2.2.2.2⟩) ?_;simp[GAuto.nf]
structure GView where
 a:GAuto
 first:List Int
instance:Enc GView:=⟨fun x=>.agg [.int .i64 x.a.ring.kind,.sl (ens x.a.ring.parts),.int .i64 x.a.sy,.int .i64 x.a.st,.sl (ens x.a.ini),.sl (ens x.a.fin),.sl (ens x.a.arcs),.sl (ens x.first)],8,by decide,fun _=>rfl⟩
@[simp] theorem ybz(x:GView):enc x=.agg [.int .i64 x.a.ring.kind,.sl (ens x.a.ring.parts),.int .i64 x.a.sy,.int .i64 x.a.st,.sl (ens x.a.ini),.sl (ens x.a.fin),.sl (ens x.a.arcs),.sl (ens x.first)]:=rfl
@[simp] theorem z78:Enc.sz GView=8:=rfl
theorem zsk(v:GView)(w:GW)(hw:w.sm 1048576):Sp P F.ef [enc v,enc w] (.pure (.bool (decide (w=v.a.ring.zero)))):=by refine Sp.vz c.ef fun _=>?_;simp[g.ef];refine zaf (zgy v.a.ring) ?_;simp;refine zaf (zdp w hw v.a.ring.zero) ?_;simp
theorem zqz(v:GView)(q:Nat)(hq:q<v.a.ini.length)(hw:∀ w∈v.a.ini,w.sm 1048576):Sp P F.a8 [enc v,.int .i64 q] (.pure (.bool (decide (v.a.ini[q]≠v.a.ring.zero)))):=by refine Sp.vz c.a8 fun _=>?_;simp[g.a8];refine zad hq ?_;refine zaf (zsk v v.a.ini[q] (hw _ (yfi hq))) ?_;simp
theorem zy8(v:GView)(q:Nat)(hq:q<v.a.fin.length)(hw:∀ w∈v.a.fin,w.sm 1048576):Sp P F.bb [enc v,.int .i64 q] (.pure (.bool (decide (v.a.fin[q]≠v.a.ring.zero)))):=by refine Sp.vz c.bb fun _=>?_;simp[g.bb];refine zad hq ?_;refine zaf (zsk v v.a.fin[q] (hw _ (yfi hq))) ?_;simp
theorem zo9(v:GView)(hl:v.a.arcs.length<=1000000):Sp P F.ja [enc v] (.pure (.bool (v.a.arcs.any fun x=>decide (x.l=0)))):=by
 refine Sp.vz c.ja fun _=>?_;generalize hr:(v.a.arcs.any fun x=>decide (x.l=0))=res;simp[g.ja]
 refine zaj (S:=fun k:Nat=>mkSt [(7,.p (.sl (ens v.a.arcs))),(8,.p (.int .i64 v.a.arcs.length)),(9,.p (.int .i64 k))] []) (I:=fun k=>k<=v.a.arcs.length/\∀ x∈v.a.arcs.take k,x.l≠0) (m:=fun k=>v.a.arcs.length - k) 0
  (Weak.to [7,8,9] [] (by simp)) ⟨by omega,by simp⟩ ?_
 rintro k ⟨h6,h7⟩ R hn' hr' hx;have e1:=i64s k;simp[g.pf,mkSt];refine⟨fun hk=>?_,fun hk=>hx _ _ ?_⟩
 ·refine zad hk ?_;refine⟨fun h0=>hr' _ ?_,fun h0=>?_⟩
  ·have:res=true:=by rw[<- hr];simp only[List.any_eq_true,decide_eq_true_eq];exact⟨_,yfi hk,h0⟩
   simp[this]
  ·simp[e1];refine hn' (k+1) _ (Weak.to [7,8,9] [] (by simp[mkSt])) ⟨by omega,fun x hx=>?_⟩ (by omega);rw[yfu hk]at hx;rcases yfk.1 hx with hx|hx
   ·exact h7 x hx
   ·simp only[ygj]at hx;subst hx;exact h0
 ·have hk':k=v.a.arcs.length:=by omega
  have:res=false:=by rw[<- hr,List.any_eq_false];intro x hx;rw[hk',List.take_length]at h7;simpa using h7 x hx
  simp[this]
end Go.Ab
