/- Lemmas for the law AmbiguityOfDeterministic, part 24. No conditions. -/
import Derived.Test.YtcemegnnejaahaaGreatDoorAP23
set_option maxRecDepth 100000
set_option maxHeartbeats 4000000
set_option linter.all false
namespace Go.Ab
open Enc (enc)
def kcE(e:Ex):List PV:=[.int .i64 e.a,.int .i64 e.b,.int .i64 e.c]
theorem z4v(e:Ex):enc e=.agg (kcE e):=rfl
theorem z4s(e e':Ex):eqI (kcE e) (kcE e')=true ↔ e=e':=by cases e;cases e';simp[kcE,eqI]
def zR:GRat:=⟨false,[],[]⟩
def zii(e:Ex)(L:List (Ex × GRat)):GRat:=(mget e L).getD zR
def madd(m:GMono)(L:List (Ex × GRat)):List (Ex × GRat):=mset m.e (rto ((zii m.e L).v+m.coef.v)) L
theorem zzb(l:List UInt32):zed (ens l)=true:=by rw[zfk];intro v hv;obtain⟨x,_,rfl⟩:=ym5.1 hv;rfl
theorem zw8(L:List (Ex × GRat)):zed (mks L)=true:=by rw[zfk];intro v hv;obtain⟨x,_,rfl⟩:=ym5.1 hv;rfl
theorem zw7(L:List (Ex × GRat)):zed (mvs L)=true:=by rw[zfk];intro v hv;obtain⟨x,_,rfl⟩:=ym5.1 hv;show(PV.agg [.bool x.2.neg,.sl (ens x.2.num),.sl (ens x.2.den)]).nomp=true;simp[PV.nomp,zed,zzb]
theorem zqs{e:Ex}(h:e.ok=true):zcq (List.replicate 3 .i64) (kcE e)=true:=by simp only[Ex.ok,decide_eq_true_eq]at h;simp[kcE,zcq,List.replicate,Lit.wf,IntKind.min,IntKind.max,IntKind.signed,IntKind.bits];omega
theorem zo3{L:List (Ex × GRat)}(h:∀ p∈L,p.1.ok=true):(mks L).all (zex (List.replicate 3 .i64))=true:=by simp only[ymn];intro v hv;obtain⟨x,hx,rfl⟩:=ym5.1 hv;exact zqs (h x hx)
def z5v(r:Nat)(ks' vs':List PV)(ex:Exit)(s:St)(B:Option FA):Prop:=(ex=.normal\/ex=.ret)/\(B=some (zij r ks' vs')\/(B=some (fzFA r)/\s.get 0=.p (.mp r ks' vs')))
theorem z09(m:GMono)(L:List (Ex × GRat))(hm:m.e.ok=true)(hc:m.coef.sm 1048576)(hL:∀ p∈L,p.1.ok=true/\p.2.sm 1048576) :
  SpU P F.oe (mks L) (mvs L) [enc m.e,enc m.coef] (mks (madd m L)) (mvs (madd m L)):=by
 refine SpU.of_mr c.oe (by simp) fun r=>?_;show MR P _ _ _ _ (z5v r (mks (madd m L)) (mvs (madd m L)));have hm':=hm;simp only[Ex.ok,decide_eq_true_eq]at hm';unfold g.oe;refine MR.gseq ?_;simp;refine MR.gseq ?_;simp;refine zaa (zon m.e ⟨⟨by omega,by omega⟩,⟨by omega,by omega⟩,by omega,by omega⟩) rfl ?_;simp;refine MR.gcond (t:=true) (by simp;omega) (fun _=>?_) (fun h=>by cases h);refine MR.gregD rfl (by decide) ?_;have hfind:=zkl z4v z4s m.e L;have hput:=zmu z4v z4s m.e (rto ((zii m.e L).v+m.coef.v)) L;have hk:=zqs hm;have hks:=zo3 fun p hp=>(hL p hp).1;simp only[kcE,List.replicate]at hfind hk hks
 have fin:∀ s:St,s.get 9=.p (.mp r (mks L) (mvs L))->s.get 10=.p (.agg (kcE m.e))->s.get 15=.p (enc (rto ((zii m.e L).v+m.coef.v))) ->
   MOp P 16 ⟨none,.raw (.mapUpdate 267 (.tmp 9) (.tmp 10) (.tmp 15)),none⟩ s (some (fzFA r)) fun s B=>z5v r (mks (madd m L)) (mvs (madd m L)) .normal s B:=fun s h1 h2 h3=>by
  refine zqi (d:=none) ty.map ty.key ty.int ty.cells ty.cell ty.size h1 h2 h3 (zo3 fun p hp=>(hL p hp).1) (zqs hm) ?_ ?_ ?_
  ·rw[hput];exact zw8 _
  ·rw[hput];exact zw7 _
  ·rw[hput];exact⟨.inl rfl,.inl rfl⟩
 cases hg:mget m.e L with
 | none =>
  rw[hg]at hfind;have hz:zii m.e L=zR:=by simp[zii,hg]
  simp[hfind,hk,hks];rw[hz]at fin;refine zaa (zid zR m.coef ⟨by simp[zR],by simp[zR]⟩ hc) rfl ?_;simp;exact fin _ rfl rfl rfl
 | some c =>
  rw[hg]at hfind;have hz:zii m.e L=c:=by simp[zii,hg]
  rw[hz]at fin;simp[hfind,hk,hks];refine zaa (zid c m.coef (hL _ (zxg hg)).2 hc) rfl ?_;simp;exact fin _ rfl rfl rfl
end Go.Ab
namespace Go.Ab
open Enc (enc)
attribute [local simp] zaj Opd.slots
def z98(k:Int)(v w:GW):GW :=
 if k=1\/k=3 then .mk (rto (v.q.v*w.q.v)) 0 false 0 [] []
 else if k=2 then if v.inf=true\/w.inf=true\/1099511627776<v.cost+w.cost then .mk gr0 0 true 0 [] []else .mk gr0 (v.cost+w.cost) false 0 [] []
 else if k=4 then .mk gr0 0 false (v.set &&& w.set) [] []
 else .mk gr0 0 false 0 (pmul v.poly w.poly) []
structure GW.wb (D B:Nat) (w:GW):Prop where
 q:qb D B w.q.v
 p:pqb D B w.poly
end Go.Ab
namespace Go.Ab
open Enc (enc)
theorem zui(q:Rat):qb q.den q.num.natAbs q:=⟨q.num,(Rat.mkRat_self q).symm,ym9 _⟩
theorem zoy{n m:Nat}(h:(lb n).length<=m):n<4294967296^m:=ymk (zil n) (yn4 (by omega) h)
theorem ratb{x:GRat}{m:Nat}(hx:x.sm m)(hm:1<=m):x.v.num.natAbs<4294967296^m/\x.v.den<4294967296^m:=by have:=zgi hx hm;exact⟨zoy this.1,zoy this.2⟩
theorem zrt(n:Nat)(a b:Nat)(ha:a<4294967296^n)(hb:b<4294967296^n):a+b<4294967296^(n+1):=by
 rw[ymm];generalize 4294967296^n=W at *
 omega
theorem zjs{x y:GRat}{m n:Nat}(hx:x.sm m)(hy:y.sm n)(hm:1<=m)(hn:1<=n):(rto (x.v+y.v)).sm (m+n+1):=by
 obtain⟨a1,a2⟩:=ratb hx hm;obtain⟨b1,b2⟩:=ratb hy hn;have h1:=zle y.v.den y.v.den_nz (zui x.v);have h2:=zle x.v.den x.v.den_nz (zui y.v);rw[ymo y.v.den]at h2;have hD:x.v.den*y.v.den≠0:=ypp x.v.den_nz y.v.den_nz;have h3:=yag h1 h2 hD;have hpos:∀ k,0<4294967296^k:=fun k=>yns (by omega);have c1:x.v.num.natAbs*y.v.den<4294967296^(m+n):=by rw[yn5];exact yo5 a1 b2
 have c2:y.v.num.natAbs*x.v.den<4294967296^(m+n):=by rw[yn5,ymo];exact yo5 a2 b1
 have c3:x.v.den*y.v.den<4294967296^(m+n):=by rw[yn5];exact yo5 a2 b2
 refine yf6 h3 hD (ymk c3 (yn4 (by omega) (by omega))) ?_;exact zrt _ _ _ c1 c2
def pden:List GMono->Nat
 | []=>1
 | m::p=>m.coef.v.den*pden p
theorem zi0(p:List GMono):pden p≠0:=by
 induction p with
 | nil=>simp[pden]
 | cons m p ih=>exact ypp m.coef.v.den_nz ih
theorem z2n{p:List GMono}{n:Nat}(hp:psm p n)(hn:1<=n):pden p<4294967296^(n*p.length+1):=by
 induction p with
 | nil=>simp[pden]
 | cons m p ih =>
  have h1:=(ratb (hp m (by simp)) hn).2;have h2:=ih fun x hx=>hp x (by simp[hx]);have:n*(m::p).length+1=n+(n*p.length+1):=by simp[yn6];omega
  rw[this,yn5];exact yo5 h1 h2
theorem yca{p:List GMono}{m:GMono}(hm:m∈p)(k:Nat)(hk:k≠0):qb (pden p*k) (m.coef.v.num.natAbs*(pden p*k)) m.coef.v:=by
 induction p with
 | nil=>simp at hm
 | cons x p ih =>
  rcases ym3.1 hm with rfl|hm
  ·have h:=zle (pden p*k) (ypp (zi0 p) hk) (zui m.coef.v);rw[show pden (m::p)*k=m.coef.v.den*(pden p*k) by simp[pden,ymq]];exact zp6 h (ynu _ (Nat.le_mul_of_pos_left _ (yq8 m.coef.v.den_nz)))
  ·have h:=zle x.coef.v.den x.coef.v.den_nz (ih hm);have e:pden (x::p)*k=pden p*k*x.coef.v.den:=by simp only[pden];rw[ymq,ymo]
   rw[e,<- Nat.mul_assoc (m.coef.v.num.natAbs)];exact h
theorem zwr{p:List GMono}{n k:Nat}(hv:PVal p)(hp:psm p n)(hn:1<=n)(hk:k≠0):pqb (pden p*k) (4294967296^n*(pden p*k)) p:=by
 intro e;by_cases h:∃ m∈p,m.e=e
 ·obtain⟨m,hm,rfl⟩:=h;rw[zwv hv hm];exact zp6 (yca hm k hk) (yn1 _ (Nat.le_of_lt (ratb (hp m hm) hn).1))
 ·rw[zie fun m hm he=>h ⟨m,hm,he⟩];exact zp6 (z2c _) (yn0 _)
theorem zqa{p:List GMono}(hv:PVal p)(e:Ex):pc p e=0\/∃ m∈p,pc p e=m.coef.v:=by
 by_cases h:∃ m∈p,m.e=e
 ·obtain⟨m,hm,rfl⟩:=h;exact .inr ⟨m,hm,zwv hv hm⟩
 ·exact .inl (zie fun m hm he=>h ⟨m,hm,he⟩)
theorem z7g(p:List GMono)(e:Ex)(q:Rat):(pput p e q).length<=p.length+1:=by
 rw[zmd];split
 ·omega
 ·induction p with
  | nil=>simp[pins]
  | cons m p ih =>
   simp only[pins];(repeat' split)<;>simp<;>omega
theorem zwx(p q:List GMono):(padd p q).length<=p.length+q.length:=by
 induction q generalizing p with
 | nil=>simp[padd]
 | cons m q ih =>
  have:=ih (pput p m.e m.coef.v);have h2:=z7g p m.e m.coef.v;show(padd (pput p m.e m.coef.v) q).length<=_;simp;omega
theorem zs2:gr0.v=0:=by rw[show gr0=rto 0 from zea.symm,zgm]
theorem ycu{p q:List GMono}{m n:Nat}(hv:PVal p)(hw:PVal q)(hp:psm p m)(hq:psm q n)(hm:1<=m)(hn:1<=n):psm (padd p q) (m+n+1):=by
 intro x hx;have hval:=zcn q hv;have hok:=GMono.ok_iff.1 ((zam.1 hval).1 x hx);have h1:x.coef.v=pc p x.e+pc q x.e:=by rw[<- zwv hval hx,zf0 p (zam.1 hw).1]
 rw[<- zib hok.2.1,h1];have ga:∃ a:GRat,a.sm m/\a.v=pc p x.e:=by
  rcases zqa hv x.e with h|⟨y,hy,h⟩
  ·exact⟨gr0,zg7 m,by rw[zs2,h]⟩
  ·exact⟨y.coef,hp y hy,h.symm⟩
 have gb:∃ b:GRat,b.sm n/\b.v=pc q x.e:=by
  rcases zqa hw x.e with h|⟨y,hy,h⟩
  ·exact⟨gr0,zg7 n,by rw[zs2,h]⟩
  ·exact⟨y.coef,hq y hy,h.symm⟩
 obtain⟨a,a1,a2⟩:=ga;obtain⟨b,b1,b2⟩:=gb;rw[<- a2,<- b2];exact zjs a1 b1 hm hn
theorem z4e(v:Value)(x:AV)(n:Nat)(M:Nat->Option Obj)(st:St)(h0:st.get 0=.nil)(h1:st.get 1=x)(h2:∀ t,st.get (t+2)=.undef)(hx:ARep ⟨M,fun _ _=>none,fun _ _=>0⟩ st x v)(t:Nat) :
  ARep ⟨M,fun _ _=>none,fun _ _=>0⟩ st (st.get t) (([.slice none 0 0,v].toArray++Array.replicate n Go.undef).getD t Go.undef):=by
 match t with
 | 0 =>
  have e:([.slice none 0 0,v].toArray++Array.replicate n Go.undef).getD 0 Go.undef=.slice none 0 0:=by simp[Array.getElem?_append]
  rw[h0,e];exact .nil
 | 1 =>
  have e:([.slice none 0 0,v].toArray++Array.replicate n Go.undef).getD 1 Go.undef=v:=by simp[Array.getElem?_append]
  rw[h1,e];exact hx
 | t+2=>rw[h2];exact .undef _
theorem z8k(k:Nat)(hk:k<=1073741824):SpV P F.oi [.slice none 0 0,.int .i64 k] (.fresh 6 []):=by
 refine SpV.of_vm (st:=⟨[(0,.nil),(1,.p (.int .i64 k))],[]⟩) c.oi (by simp) rfl (fun M t=>z4e _ _ _ M _ rfl rfl (fun t=>by simp[St.get,look]) (.p _ _ (.int _ _)) t) ?_;simp[g.oi];have e0:IntKind.i64.wrap (k:Int)=k:=i64w (by omega) (by omega);simp only[e0];refine⟨fun h=>⟨⟨by omega,by omega,by omega⟩,by omega,⟨_,Weak.trunc0 (by decide),?_⟩⟩,fun h=>⟨_,Weak.refl _,?_⟩⟩
 ·simp[look]
 ·simp[look]
theorem zf3{P:Program}{N:Nat}{st:St}{A:Option FA}{PostI:St->Option FA->Prop}(dead:List (List Nat)){is:List Ins}(h:vm P N (fun ex s=>ex=.normal->PostI s A) [.ins is dead] st):MIns P N is st A PostI:=by obtain⟨gs,s1,s2,r1,r2,r3⟩:=zcy _ (Nat.le_refl _) h;have h2:MIns P N (is++[]) st A PostI:=.run r1 ⟨s2,r2,r3 rfl⟩;simpa using h2
theorem z5e(p q:List GMono)(hl:p.length+q.length<=1073741824):Sp P F.og [.sl (ens [p,q])] (.fresh 6 (ens (p++q))):=by
 refine Sp.of_mr c.og (by simp) ?_;unfold g.og;have e0:IntKind.i64.wrap (0+(p.length:Int))=p.length:=by rw[i64w (by omega) (by omega)];omega
 have e1:IntKind.i64.wrap ((p.length:Int)+q.length)=((p.length+q.length:Nat):Int):=i64w (by omega) (by omega);have e2:IntKind.i64.wrap (p.length:Int)=p.length:=i64w (by omega) (by omega);generalize hP:(fun ex s (_:Option FA)=>retP [(2,none)] (RV.fresh 6 (ens (p++q))) ex s)=Post;refine MR.gseq ?_;simp;refine MR.gseq ?_;simp;refine MR.gseq ?_;simp;refine zh0 fun R hn hr hx=>?_;simp[g.qh,e2];refine hn _ ?_;refine zh0 fun R hn hr hx=>?_;simp[g.qh,e1];refine⟨by omega,fun _=>hn _ ?_⟩;refine zh0 fun R hn hr hx=>?_;simp[g.qh];refine hx _ _ ?_;simp;refine MR.gseq' (MR.greg (zqj 1 [[3,9,10,11]] ?_));simp;refine MIns.cons (z3l (v:=.own 24 0 0 0) (z8k _ hl) (fun Z ys h=>?_) rfl rfl ?_)
 ·cases h with
  | cons _ _ _ _ h1 h =>
   cases h with
   | cons _ _ _ _ h2 h =>
    cases h;cases h1;cases h2.inv_p;simp
 refine zf3 [[24]] ?_;simp;clear hn hr hx;subst hP;refine MR.of_vm ?_;simp;refine zh0 fun R hn hr hx=>?_;simp[g.qi];refine⟨by omega,hn _ ?_⟩;refine zh0 fun R hn hr hx=>?_;simp[g.qi];refine⟨by omega,hn _ ?_⟩;refine zh0 fun R hn hr hx=>?_;simp[g.qi];refine hx _ _ ?_;simp
end Go.Ab
