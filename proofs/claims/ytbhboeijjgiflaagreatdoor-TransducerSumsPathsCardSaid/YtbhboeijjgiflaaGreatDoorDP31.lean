/-
Proofs for the law TransducerSumsPaths, part 31. Conditions: none.
-/
import Derived.Test.YtbhboeijjgiflaaGreatDoorDP28
import Derived.Test.YtbhboeijjgiflaaGreatDoorDP25
import Derived.Test.YtbhboeijjgiflaaGreatDoorDP30
import Derived.Test.YtbhboeijjgiflaaGreatDoorDP29
import Derived.Test.YtbhboeijjgiflaaGreatDoorDP23
import Derived.Test.YtbhboeijjgiflaaGreatDoorDP26
set_option maxRecDepth 100000
set_option maxHeartbeats 4000000
set_option linter.all false
namespace Go.Ab
open Enc (enc)
def kcE(e:Ex):List PV:=[.int .i64 e.a,.int .i64 e.b,.int .i64 e.c]
theorem z5p(e:Ex):enc e=.agg (kcE e):=rfl
theorem z5n(e e':Ex):eqI (kcE e) (kcE e')=true ↔ e=e':=by cases e;cases e';simp[kcE,eqI,and_assoc]
def zR:GRat:=⟨false,[],[]⟩
def ziw(e:Ex)(L:List (Ex × GRat)):GRat:=(mget e L).getD zR
def madd(m:GMono)(L:List (Ex × GRat)):List (Ex × GRat):=mset m.e (rto ((ziw m.e L).v+m.coef.v)) L
theorem z0i(l:List UInt32):zes (ens l)=true:=by rw[zf5];intro v hv;obtain⟨x,_,rfl⟩:=ym6.1 hv;rfl
theorem zri(L:List (Ex × GRat)):zes (mks L)=true:=by rw[zf5];intro v hv;obtain⟨x,_,rfl⟩:=ym6.1 hv;rfl
theorem zrh(L:List (Ex × GRat)):zes (mvs L)=true:=by rw[zf5];intro v hv;obtain⟨x,_,rfl⟩:=ym6.1 hv;show(PV.agg [.bool x.2.neg,.sl (ens x.2.num),.sl (ens x.2.den)]).nomp=true;simp[PV.nomp,zes,z0i]
theorem zry{e:Ex}(h:e.ok=true):zfq (List.replicate 3 .i64) (kcE e)=true:=by simp only[Ex.ok,decide_eq_true_eq]at h;simp[kcE,zfq,List.replicate,Lit.wf,IntKind.min,IntKind.max,IntKind.signed,IntKind.bits];omega
theorem zqb{L:List (Ex × GRat)}(h:∀ p∈L,p.1.ok=true):(mks L).all (zf7 (List.replicate 3 .i64))=true:=by simp only[ynq];intro v hv;obtain⟨x,hx,rfl⟩:=ym6.1 hv;exact zry (h x hx)
def zwx(r:Nat)(ks' vs':List PV)(ex:Exit)(s:St)(B:Option FA):Prop:=(ex=.normal\/ex=.ret)/\(B=some (zii r ks' vs')\/(B=some (fzFA r)/\s.get 0=.p (.mp r ks' vs')))
theorem ztb(m:GMono)(L:List (Ex × GRat))(hm:m.e.ok=true)(hc:m.coef.sm 1048576)(hL:∀ p∈L,p.1.ok=true/\p.2.sm 1048576) :
  SpU P F.bt (mks L) (mvs L) [enc m.e,enc m.coef] (mks (madd m L)) (mvs (madd m L)):=by
 refine SpU.of_mr c.bt (by simp) fun r=>?_;show MR P _ _ _ _ (zwx r (mks (madd m L)) (mvs (madd m L)));have hm':=hm;simp only[Ex.ok,decide_eq_true_eq]at hm';unfold g.bt;refine MR.gseq ?_;simp[go_sem];refine MR.gseq ?_;simp[go_sem];refine zaa (zkq m.e ⟨⟨by omega,by omega⟩,⟨by omega,by omega⟩,by omega,by omega⟩) rfl ?_;simp[go_sem];refine MR.gcond (t:=true) (by simp[go_sem];omega) (fun _=>?_) (fun h=>by cases h);refine MR.gregD rfl (by decide) ?_;have hfind:=zlm z5p z5n m.e L;have hput:=znw z5p z5n m.e (rto ((ziw m.e L).v+m.coef.v)) L;have hk:=zry hm;have hks:=zqb fun p hp=>(hL p hp).1;simp only[kcE,List.replicate]at hfind hk hks
 have fin:∀ s:St,s.get 9=.p (.mp r (mks L) (mvs L))->s.get 10=.p (.agg (kcE m.e))->s.get 15=.p (enc (rto ((ziw m.e L).v+m.coef.v))) ->
   MOp P 16 ⟨none,.raw (.mapUpdate 218 (.tmp 9) (.tmp 10) (.tmp 15)),none⟩ s (some (fzFA r)) fun s B=>zwx r (mks (madd m L)) (mvs (madd m L)) .normal s B:=fun s h1 h2 h3=>by
  refine zrn (d:=none) ty.map ty.key ty.int ty.cells ty.cell ty.size h1 h2 h3 (zqb fun p hp=>(hL p hp).1) (zry hm) ?_ ?_ ?_
  ·rw[hput];exact zri _
  ·rw[hput];exact zrh _
  ·rw[hput];exact⟨.inl rfl,.inl rfl⟩
 cases hg:mget m.e L with
 | none =>
  rw[hg]at hfind;have hz:ziw m.e L=zR:=by simp[ziw,hg]
  simp[go_sem,hfind,hk,hks];rw[hz]at fin;refine zaa (znd zR m.coef ⟨by simp[zR],by simp[zR]⟩ hc) rfl ?_;simp[go_sem];exact fin _ rfl rfl rfl
 | some c =>
  rw[hg]at hfind;have hz:ziw m.e L=c:=by simp[ziw,hg]
  rw[hz]at fin;simp[go_sem,hfind,hk,hks];refine zaa (znd c m.coef (hL _ (zyk hg)).2 hc) rfl ?_;simp[go_sem];exact fin _ rfl rfl rfl
end Go.Ab
namespace Go.Ab
open Enc (enc)
attribute [local go_sem] zal Opd.slots
theorem zu0(x y:UInt64):andI .u64 x.toNat y.toNat=((x &&& y).toNat:Int):=by rw[zzk x.toNat_lt y.toNat_lt,UInt64.toNat_and]
def zam(k:Int)(v w:GW):GW :=
 if k=1\/k=3 then .mk (rto (v.q.v*w.q.v)) 0 false 0 [] []
 else if k=2 then if v.inf=true\/w.inf=true\/1099511627776<v.cost+w.cost then .mk gr0 0 true 0 [] []else .mk gr0 (v.cost+w.cost) false 0 [] []
 else if k=4 then .mk gr0 0 false (v.set &&& w.set) [] []
 else .mk gr0 0 false 0 (pmul v.poly w.poly) []
theorem zxi(v w:GW)(hv:v.sm 1048576)(hw:w.sm 1048576)(cv:v.chk ⟨1,[]⟩)(cw:w.chk ⟨1,[]⟩):Sp P F.ae [enc (⟨1,[]⟩:GRing),enc v,enc w] (.pure (enc (zam 1 v w))):=by have hr0:(⟨1,[]⟩:GRing).ok=true:=zem (by omega);have t1:v.tk ⟨1,[]⟩=v:=ym0 cv;have t2:w.tk ⟨1,[]⟩=w:=ym0 cw;have k1:=zaz ⟨1,[]⟩ v hv;have k2:=zaz ⟨1,[]⟩ w hw;rw[t1]at k1;rw[t2]at k2;refine Sp.vz c.ae fun _=>?_;simp[g.ae,go_sem];refine zaa (zax ⟨1,[]⟩) rfl ?_;simp[hr0,go_sem];refine zab k1 ?_;simp[go_sem];refine zab k2 ?_;simp[go_sem];refine zaa (zv4 v.q w.q hv.q hw.q) rfl ?_;simp[zam,go_sem]
theorem zxg(v w:GW)(hv:v.sm 1048576)(hw:w.sm 1048576)(cv:v.chk ⟨3,[]⟩)(cw:w.chk ⟨3,[]⟩):Sp P F.ae [enc (⟨3,[]⟩:GRing),enc v,enc w] (.pure (enc (zam 3 v w))):=by have hr0:(⟨3,[]⟩:GRing).ok=true:=zem (by omega);have t1:v.tk ⟨3,[]⟩=v:=ym0 cv;have t2:w.tk ⟨3,[]⟩=w:=ym0 cw;have k1:=zaz ⟨3,[]⟩ v hv;have k2:=zaz ⟨3,[]⟩ w hw;rw[t1]at k1;rw[t2]at k2;refine Sp.vz c.ae fun _=>?_;simp[g.ae,go_sem];refine zaa (zax ⟨3,[]⟩) rfl ?_;simp[hr0,go_sem];refine zab k1 ?_;simp[go_sem];refine zab k2 ?_;simp[go_sem];refine zaa (zv4 v.q w.q hv.q hw.q) rfl ?_;simp[zam,go_sem]
theorem zxh(v w:GW)(hv:v.sm 1048576)(hw:w.sm 1048576)(cv:v.chk ⟨2,[]⟩)(cw:w.chk ⟨2,[]⟩):Sp P F.ae [enc (⟨2,[]⟩:GRing),enc v,enc w] (.pure (enc (zam 2 v w))):=by
 have hr0:(⟨2,[]⟩:GRing).ok=true:=zem (by omega);have t1:v.tk ⟨2,[]⟩=v:=ym0 cv;have t2:w.tk ⟨2,[]⟩=w:=ym0 cw;have k1:=zaz ⟨2,[]⟩ v hv;have k2:=zaz ⟨2,[]⟩ w hw;rw[t1]at k1;rw[t2]at k2;refine Sp.vz c.ae fun _=>?_;simp[g.ae,go_sem];refine zaa (zax ⟨2,[]⟩) rfl ?_;simp[hr0,go_sem];refine zab k1 ?_;simp[go_sem];refine zab k2 ?_;simp[go_sem];have r1:=si2.1 (cv.2.1 (by simp));have r2:=si2.1 (cw.2.1 (by simp));have e1:IntKind.i64.wrap (v.cost+w.cost)=v.cost+w.cost:=i64w (by omega) (by omega);rcases ymz v.inf with h1|h1
 ·simp[zam,h1,go_sem]
 rcases ymz w.inf with h2|h2
 ·simp[zam,h1,h2,go_sem]
 simp[zam,h1,h2,e1,go_sem];refine⟨fun h3=>by simp[h3,go_sem],fun h3=>by simp[show ¬ 1099511627776<v.cost+w.cost by omega,go_sem]⟩
theorem zxf(v w:GW)(hv:v.sm 1048576)(hw:w.sm 1048576)(cv:v.chk ⟨4,[]⟩)(cw:w.chk ⟨4,[]⟩):Sp P F.ae [enc (⟨4,[]⟩:GRing),enc v,enc w] (.pure (enc (zam 4 v w))):=by have hr0:(⟨4,[]⟩:GRing).ok=true:=zem (by omega);have t1:v.tk ⟨4,[]⟩=v:=ym0 cv;have t2:w.tk ⟨4,[]⟩=w:=ym0 cw;have k1:=zaz ⟨4,[]⟩ v hv;have k2:=zaz ⟨4,[]⟩ w hw;rw[t1]at k1;rw[t2]at k2;refine Sp.vz c.ae fun _=>?_;simp[g.ae,go_sem];refine zaa (zax ⟨4,[]⟩) rfl ?_;simp[hr0,go_sem];refine zab k1 ?_;simp[go_sem];refine zab k2 ?_;simp[go_sem];simp[zam,zu0,go_sem]
theorem zxe(v w:GW)(hv:v.sm 1048576)(hw:w.sm 1048576)(cv:v.chk ⟨5,[]⟩)(cw:w.chk ⟨5,[]⟩)(D D' B B':Nat)(h1:pqb D B v.poly)(h2:pqb D' B' w.poly)(hD0:D≠0)(hD0':D'≠0)(hD:D*D'<4294967296^1048576)(hB:46656*(B*B')<4294967296^1048576)(hs:psm v.poly 524288)(hs':psm w.poly 524288):Sp P F.ae [enc (⟨5,[]⟩:GRing),enc v,enc w] (.pure (enc (zam 5 v w))):=by have k3:=z4e v.poly w.poly D D' B B' (zl4 cv) (zl4 cw) h1 h2 hD0 hD0' hD hB hs hs';clear hD hB;have hr0:(⟨5,[]⟩:GRing).ok=true:=zem (by omega);have t1:v.tk ⟨5,[]⟩=v:=ym0 cv;have t2:w.tk ⟨5,[]⟩=w:=ym0 cw;have k1:=zaz ⟨5,[]⟩ v hv;have k2:=zaz ⟨5,[]⟩ w hw;rw[t1]at k1;rw[t2]at k2;refine Sp.vz c.ae fun _=>?_;simp[g.ae,go_sem];refine zaa (zax ⟨5,[]⟩) rfl ?_;simp[hr0,go_sem];refine zab k1 ?_;simp[go_sem];refine zab k2 ?_;simp[go_sem];refine zaa k3 rfl ?_;simp[zam,go_sem]
structure GW.wb (D B:Nat) (w:GW):Prop where
 q:qb D B w.q.v
 p:pqb D B w.poly
end Go.Ab
namespace Go.Ab
open Enc (enc)
theorem zq4(q:Rat):qb q.den q.num.natAbs q:=⟨q.num,(yrc q).symm,ym8 _⟩
theorem zp8{n m:Nat}(h:(lb n).length<=m):n<4294967296^m:=ymp (ziy n) (ynl (by omega) h)
theorem ratb{x:GRat}{m:Nat}(hx:x.sm m)(hm:1<=m):x.v.num.natAbs<4294967296^m/\x.v.den<4294967296^m:=by have:=zdq hx hm;exact⟨zp8 this.1,zp8 this.2⟩
theorem zmz(n:Nat)(a b:Nat)(ha:a<4294967296^n)(hb:b<4294967296^n):a+b<4294967296^(n+1):=by
 rw[ymx];generalize 4294967296^n=W at *
 omega
theorem zkn{x y:GRat}{m n:Nat}(hx:x.sm m)(hy:y.sm n)(hm:1<=m)(hn:1<=n):(rto (x.v+y.v)).sm (m+n+1):=by
 obtain⟨a1,a2⟩:=ratb hx hm;obtain⟨b1,b2⟩:=ratb hy hn;have h1:=zd0 y.v.den y.v.den_nz (zq4 x.v);have h2:=zd0 x.v.den x.v.den_nz (zq4 y.v);rw[ynd y.v.den]at h2;have hD:x.v.den*y.v.den≠0:=yoj x.v.den_nz y.v.den_nz;have h3:=ztm h1 h2 hD;have hpos:∀ k,0<4294967296^k:=fun k=>ynj (by omega);have c1:x.v.num.natAbs*y.v.den<4294967296^(m+n):=by rw[ymt];exact yo2 a1 b2
 have c2:y.v.num.natAbs*x.v.den<4294967296^(m+n):=by rw[ymt,ynd];exact yo2 a2 b1
 have c3:x.v.den*y.v.den<4294967296^(m+n):=by rw[ymt];exact yo2 a2 b2
 refine zvj h3 hD (ymp c3 (ynl (by omega) (by omega))) ?_;exact zmz _ _ _ c1 c2
def pden:List GMono->Nat
 | []=>1
 | m::p=>m.coef.v.den*pden p
theorem zfc(p:List GMono):pden p≠0:=by
 induction p with
 | nil=>simp[pden]
 | cons m p ih=>exact yoj m.coef.v.den_nz ih
theorem znh{p:List GMono}{n:Nat}(hp:psm p n)(hn:1<=n):pden p<4294967296^(n*p.length+1):=by
 induction p with
 | nil=>simp[pden]
 | cons m p ih =>
  have h1:=(ratb (hp m (by simp)) hn).2;have h2:=ih fun x hx=>hp x (by simp[hx]);have:n*(m::p).length+1=n+(n*p.length+1):=by simp[yo1];omega
  rw[this,ymt];exact yo2 h1 h2
theorem ycr{p:List GMono}{m:GMono}(hm:m∈p)(k:Nat)(hk:k≠0):qb (pden p*k) (m.coef.v.num.natAbs*(pden p*k)) m.coef.v:=by
 induction p with
 | nil=>simp at hm
 | cons x p ih =>
  rcases ym7.1 hm with rfl|hm
  ·have h:=zd0 (pden p*k) (yoj (zfc p) hk) (zq4 m.coef.v);rw[show pden (m::p)*k=m.coef.v.den*(pden p*k) by simp[pden,yn3]];exact zbh h (yo5 _ (yqs _ (ypt m.coef.v.den_nz)))
  ·have h:=zd0 x.coef.v.den x.coef.v.den_nz (ih hm);have e:pden (x::p)*k=pden p*k*x.coef.v.den:=by simp only[pden];rw[yn3,ynd]
   rw[e,<- Nat.mul_assoc (m.coef.v.num.natAbs)];exact h
theorem zme{p:List GMono}{n k:Nat}(hv:PVal p)(hp:psm p n)(hn:1<=n)(hk:k≠0):pqb (pden p*k) (4294967296^n*(pden p*k)) p:=by
 intro e;by_cases h:∃ m∈p,m.e=e
 ·obtain⟨m,hm,rfl⟩:=h;rw[ztx hv hm];exact zbh (ycr hm k hk) (ymu _ (yps (ratb (hp m hm) hn).1))
 ·rw[zit fun m hm he=>h ⟨m,hm,he⟩];exact zbh (zis _) (ymv _)
theorem zjq{p:List GMono}(hv:PVal p)(e:Ex):pc p e=0\/∃ m∈p,pc p e=m.coef.v:=by
 by_cases h:∃ m∈p,m.e=e
 ·obtain⟨m,hm,rfl⟩:=h;exact .inr ⟨m,hm,ztx hv hm⟩
 ·exact .inl (zit fun m hm he=>h ⟨m,hm,he⟩)
theorem zmg(p:List GMono)(e:Ex)(q:Rat):(pput p e q).length<=p.length+1:=by
 rw[zhk];split
 ·omega
 ·induction p with
  | nil=>simp[pins]
  | cons m p ih =>
   simp only[pins];(repeat' split)<;>simp<;>omega
theorem zmi(p q:List GMono):(padd p q).length<=p.length+q.length:=by
 induction q generalizing p with
 | nil=>simp[padd]
 | cons m q ih =>
  have:=ih (pput p m.e m.coef.v);have h2:=zmg p m.e m.coef.v;show(padd (pput p m.e m.coef.v) q).length<=_;simp;omega
theorem zf9:gr0.v=0:=by rw[show gr0=rto 0 from zce.symm,zbe]
theorem yc7{p q:List GMono}{m n:Nat}(hv:PVal p)(hw:PVal q)(hp:psm p m)(hq:psm q n)(hm:1<=m)(hn:1<=n):psm (padd p q) (m+n+1):=by
 intro x hx;have hval:=zcf q hv;have hok:=GMono.ok_iff.1 ((zaj.1 hval).1 x hx);have h1:x.coef.v=pc p x.e+pc q x.e:=by rw[<- ztx hval hx,ze2 p (zaj.1 hw).1]
 rw[<- zf0 hok.2.1,h1];have ga:∃ a:GRat,a.sm m/\a.v=pc p x.e:=by
  rcases zjq hv x.e with h|⟨y,hy,h⟩
  ·exact⟨gr0,zg6 m,by rw[zf9,h]⟩
  ·exact⟨y.coef,hp y hy,h.symm⟩
 have gb:∃ b:GRat,b.sm n/\b.v=pc q x.e:=by
  rcases zjq hw x.e with h|⟨y,hy,h⟩
  ·exact⟨gr0,zg6 n,by rw[zf9,h]⟩
  ·exact⟨y.coef,hq y hy,h.symm⟩
 obtain⟨a,a1,a2⟩:=ga;obtain⟨b,b1,b2⟩:=gb;rw[<- a2,<- b2];exact zkn a1 b1 hm hn
theorem z5c(v:Value)(x:AV)(n:Nat)(M:Nat->Option Obj)(st:St)(h0:st.get 0=.nil)(h1:st.get 1=x)(h2:∀ t,st.get (t+2)=.undef)(hx:ARep ⟨M,fun _ _=>none,fun _ _=>0⟩ st x v)(t:Nat) :
  ARep ⟨M,fun _ _=>none,fun _ _=>0⟩ st (st.get t) (([.slice none 0 0,v].toArray++Array.replicate n Go.undef).getD t Go.undef):=by
 match t with
 | 0 =>
  have e:([.slice none 0 0,v].toArray++Array.replicate n Go.undef).getD 0 Go.undef=.slice none 0 0:=by simp[Array.getElem?_append]
  rw[h0,e];exact .nil
 | 1 =>
  have e:([.slice none 0 0,v].toArray++Array.replicate n Go.undef).getD 1 Go.undef=v:=by simp[Array.getElem?_append]
  rw[h1,e];exact hx
 | t+2=>rw[h2];exact .undef _
theorem z9e(k:Nat)(hk:k<=1073741824):SpV P F.mg [.slice none 0 0,.int .i64 k] (.fresh 6 []):=by
 refine SpV.of_vm (st:=⟨[(0,.nil),(1,.p (.int .i64 k))],[]⟩) c.mg (by simp) rfl (fun M t=>z5c _ _ _ M _ rfl rfl (fun t=>by simp[St.get,look]) (.p _ _ (.int _ _)) t) ?_;simp[g.mg,go_sem];have e0:IntKind.i64.wrap (k:Int)=k:=i64w (by omega) (by omega);simp only[e0];refine⟨fun h=>⟨⟨by omega,by omega,by omega⟩,by omega,⟨_,Weak.trunc0 (by decide),?_⟩⟩,fun h=>⟨_,Weak.refl _,?_⟩⟩
 ·simp[look]
 ·simp[look]
theorem zff{P:Program}{N:Nat}{st:St}{A:Option FA}{PostI:St->Option FA->Prop}(dead:List (List Nat)){is:List Ins}(h:vm P N (fun ex s=>ex=.normal->PostI s A) [.ins is dead] st):MIns P N is st A PostI:=by obtain⟨gs,s1,s2,r1,r2,r3⟩:=zdl _ (Nat.le_refl _) h;have h2:MIns P N (is++[]) st A PostI:=.run r1 ⟨s2,r2,r3 rfl⟩;simpa using h2
theorem z6b(p q:List GMono)(hl:p.length+q.length<=1073741824):Sp P F.l7 [.sl (ens [p,q])] (.fresh 6 (ens (p++q))):=by
 refine Sp.of_mr c.l7 (by simp) ?_;unfold g.l7;have e0:IntKind.i64.wrap (0+(p.length:Int))=p.length:=by rw[i64w (by omega) (by omega)];omega
 have e1:IntKind.i64.wrap ((p.length:Int)+q.length)=((p.length+q.length:Nat):Int):=i64w (by omega) (by omega);have e2:IntKind.i64.wrap (p.length:Int)=p.length:=i64w (by omega) (by omega);generalize hP:(fun ex s (_:Option FA)=>retP [(2,none)] (RV.fresh 6 (ens (p++q))) ex s)=Post;refine MR.gseq ?_;simp[go_sem];refine MR.gseq ?_;simp[go_sem];refine MR.gseq ?_;simp[go_sem];refine zim fun R hn hr hx=>?_;simp[g.n5,go_sem,e0,e1,e2];refine hn _ ?_;refine zim fun R hn hr hx=>?_;simp[g.n5,go_sem,e0,e1,e2];refine⟨by omega,fun _=>hn _ ?_⟩;refine zim fun R hn hr hx=>?_;simp[g.n5,go_sem,e0,e1,e2];refine hx _ _ ?_;simp[go_sem];refine MR.gseq' (MR.greg (zmk 1 [[3,9,10,11]] ?_));simp[go_sem];refine MIns.cons (z4j (v:=.own 24 0 0 0) (z9e _ hl) (fun Z ys h=>?_) rfl rfl ?_)
 ·cases h with
  | cons _ _ _ _ h1 h =>
   cases h with
   | cons _ _ _ _ h2 h =>
    cases h;cases h1;cases h2.inv_p;simp
 refine zff [[24]] ?_;simp[go_sem];clear hn hr hx;subst hP;refine MR.of_vm ?_;simp[go_sem];refine zim fun R hn hr hx=>?_;simp[g.n7,go_sem];refine⟨by omega,hn _ ?_⟩;refine zim fun R hn hr hx=>?_;simp[g.n7,go_sem];refine⟨by omega,hn _ ?_⟩;refine zim fun R hn hr hx=>?_;simp[g.n7,go_sem];refine hx _ _ ?_;simp[go_sem]
end Go.Ab
