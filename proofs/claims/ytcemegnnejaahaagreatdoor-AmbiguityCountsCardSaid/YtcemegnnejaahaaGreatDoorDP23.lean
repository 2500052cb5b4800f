/- Lemmas for the law AmbiguityCounts, part 23. No conditions. -/
import Derived.Test.YtcemegnnejaahaaGreatDoorDP22
set_option maxRecDepth 100000
set_option maxHeartbeats 4000000
set_option linter.all false
namespace Go.Ab
open Enc (enc)
def kcE(e:Ex):List PV:=[.int .i64 e.a,.int .i64 e.b,.int .i64 e.c]
theorem zy9(e:Ex):enc e=.agg (kcE e):=rfl
theorem zy7(e e':Ex):eqI (kcE e) (kcE e')=true ↔ e=e':=by cases e;cases e';simp[kcE,eqI]
def zR:GRat:=⟨false,[],[]⟩
def zhm(e:Ex)(L:List (Ex × GRat)):GRat:=(mget e L).getD zR
def madd(m:GMono)(L:List (Ex × GRat)):List (Ex × GRat):=mset m.e (rto ((zhm m.e L).v+m.coef.v)) L
theorem zu4(l:List UInt32):zd3 (ens l)=true:=by rw[ze6];intro v hv;obtain⟨x,_,rfl⟩:=yf6.1 hv;rfl
theorem ztf(L:List (Ex × GRat)):zd3 (mks L)=true:=by rw[ze6];intro v hv;obtain⟨x,_,rfl⟩:=yf6.1 hv;rfl
theorem zte(L:List (Ex × GRat)):zd3 (mvs L)=true:=by rw[ze6];intro v hv;obtain⟨x,_,rfl⟩:=yf6.1 hv;show(PV.agg [.bool x.2.neg,.sl (ens x.2.num),.sl (ens x.2.den)]).nomp=true;simp[PV.nomp,zd3,zu4]
theorem zog{e:Ex}(h:e.ok=true):zcl (List.replicate 3 .i64) (kcE e)=true:=by simp only[Ex.ok,decide_eq_true_eq]at h;simp[kcE,zcl,List.replicate,Lit.wf,IntKind.min,IntKind.max,IntKind.signed,IntKind.bits];omega
theorem zm2{L:List (Ex × GRat)}(h:∀ p∈L,p.1.ok=true):(mks L).all (zek (List.replicate 3 .i64))=true:=by simp only[yfp];intro v hv;obtain⟨x,hx,rfl⟩:=yf6.1 hv;exact zog (h x hx)
def z0b(r:Nat)(ks' vs':List PV)(ex:Exit)(s:St)(B:Option FA):Prop:=(ex=.normal\/ex=.ret)/\(B=some (zhn r ks' vs')\/(B=some (fzFA r)/\s.get 0=.p (.mp r ks' vs')))
theorem zwl(m:GMono)(L:List (Ex × GRat))(hm:m.e.ok=true)(hc:m.coef.sm 1048576)(hL:∀ p∈L,p.1.ok=true/\p.2.sm 1048576) :
  SpU P F.k9 (mks L) (mvs L) [enc m.e,enc m.coef] (mks (madd m L)) (mvs (madd m L)):=by
 refine SpU.of_mr c.k9 (by simp) fun r=>?_;show MR P _ _ _ _ (z0b r (mks (madd m L)) (mvs (madd m L)));have hm':=hm;simp only[Ex.ok,decide_eq_true_eq]at hm';unfold g.k9;refine MR.gseq ?_;simp;refine MR.gseq ?_;simp;refine zaa (zmp m.e ⟨⟨by omega,by omega⟩,⟨by omega,by omega⟩,by omega,by omega⟩) rfl ?_;simp;refine MR.gcond (t:=true) (by simp;omega) (fun _=>?_) (fun h=>by cases h);refine MR.gregD rfl (by decide) ?_;have hfind:=zi8 zy9 zy7 m.e L;have hput:=zk8 zy9 zy7 m.e (rto ((zhm m.e L).v+m.coef.v)) L;have hk:=zog hm;have hks:=zm2 fun p hp=>(hL p hp).1;simp only[kcE,List.replicate]at hfind hk hks
 have fin:∀ s:St,s.get 9=.p (.mp r (mks L) (mvs L))->s.get 10=.p (.agg (kcE m.e))->s.get 15=.p (enc (rto ((zhm m.e L).v+m.coef.v))) ->
   MOp P 16 ⟨none,.raw (.mapUpdate 267 (.tmp 9) (.tmp 10) (.tmp 15)),none⟩ s (some (fzFA r)) fun s B=>z0b r (mks (madd m L)) (mvs (madd m L)) .normal s B:=fun s h1 h2 h3=>by
  refine zn8 (d:=none) ty.map ty.key ty.int ty.cells ty.cell ty.size h1 h2 h3 (zm2 fun p hp=>(hL p hp).1) (zog hm) ?_ ?_ ?_
  ·rw[hput];exact ztf _
  ·rw[hput];exact zte _
  ·rw[hput];exact⟨.inl rfl,.inl rfl⟩
 cases hg:mget m.e L with
 | none =>
  rw[hg]at hfind;have hz:zhm m.e L=zR:=by simp[zhm,hg]
  simp[hfind,hk,hks];rw[hz]at fin;refine zaa (zfi zR m.coef ⟨by simp[zR],by simp[zR]⟩ hc) rfl ?_;simp;exact fin _ rfl rfl rfl
 | some c =>
  rw[hg]at hfind;have hz:zhm m.e L=c:=by simp[zhm,hg]
  rw[hz]at fin;simp[hfind,hk,hks];refine zaa (zfi c m.coef (hL _ (ztl hg)).2 hc) rfl ?_;simp;exact fin _ rfl rfl rfl
end Go.Ab
namespace Go.Ab
open Enc (enc)
attribute [local simp] zai Opd.slots
def z33(k:Int)(v w:GW):GW :=
 if k=1\/k=3 then .mk (rto (v.q.v*w.q.v)) 0 false 0 [] []
 else if k=2 then if v.inf=true\/w.inf=true\/1099511627776<v.cost+w.cost then .mk gr0 0 true 0 [] []else .mk gr0 (v.cost+w.cost) false 0 [] []
 else if k=4 then .mk gr0 0 false (v.set &&& w.set) [] []
 else .mk gr0 0 false 0 (pmul v.poly w.poly) []
structure GW.wb (D B:Nat) (w:GW):Prop where
 q:qb D B w.q.v
 p:pqb D B w.poly
end Go.Ab
namespace Go.Ab
open Enc (enc)
theorem zw7(q:Rat):qb q.den q.num.natAbs q:=⟨q.num,(Rat.mkRat_self q).symm,yf8 _⟩
theorem zmz{n m:Nat}(h:(lb n).length<=m):n<4294967296^m:=yfo (zhp n) (yg6 (by omega) h)
theorem ratb{x:GRat}{m:Nat}(hx:x.sm m)(hm:1<=m):x.v.num.natAbs<4294967296^m/\x.v.den<4294967296^m:=by have:=zf2 hx hm;exact⟨zmz this.1,zmz this.2⟩
theorem zv9(n:Nat)(a b:Nat)(ha:a<4294967296^n)(hb:b<4294967296^n):a+b<4294967296^(n+1):=by
 rw[yfn];generalize 4294967296^n=W at *
 omega
theorem zii{x y:GRat}{m n:Nat}(hx:x.sm m)(hy:y.sm n)(hm:1<=m)(hn:1<=n):(rto (x.v+y.v)).sm (m+n+1):=by
 obtain⟨a1,a2⟩:=ratb hx hm;obtain⟨b1,b2⟩:=ratb hy hn;have h1:=zs2 y.v.den y.v.den_nz (zw7 x.v);have h2:=zs2 x.v.den x.v.den_nz (zw7 y.v);rw[yfy y.v.den]at h2;have hD:x.v.den*y.v.den≠0:=Nat.mul_ne_zero x.v.den_nz y.v.den_nz;have h3:=z9n h1 h2 hD;have hpos:∀ k,0<4294967296^k:=fun k=>ygs (by omega);have c1:x.v.num.natAbs*y.v.den<4294967296^(m+n):=by rw[yg9];exact yhc a1 b2
 have c2:y.v.num.natAbs*x.v.den<4294967296^(m+n):=by rw[yg9,yfy];exact yhc a2 b1
 have c3:x.v.den*y.v.den<4294967296^(m+n):=by rw[yg9];exact yhc a2 b2
 refine ydi h3 hD (yfo c3 (yg6 (by omega) (by omega))) ?_;exact zv9 _ _ _ c1 c2
theorem zn1{p:List GMono}(hv:PVal p)(e:Ex):pc p e=0\/∃ m∈p,pc p e=m.coef.v:=by
 by_cases h:∃ m∈p,m.e=e
 ·obtain⟨m,hm,rfl⟩:=h;exact .inr ⟨m,hm,z4d hv hm⟩
 ·exact .inl (zkx fun m hm he=>h ⟨m,hm,he⟩)
theorem z1m(p:List GMono)(e:Ex)(q:Rat):(pput p e q).length<=p.length+1:=by
 rw[zku];split
 ·omega
 ·induction p with
  | nil=>simp[pins]
  | cons m p ih =>
   simp only[pins];(repeat' split)<;>simp<;>omega
theorem zs7(p q:List GMono):(padd p q).length<=p.length+q.length:=by
 induction q generalizing p with
 | nil=>simp[padd]
 | cons m q ih =>
  have:=ih (pput p m.e m.coef.v);have h2:=z1m p m.e m.coef.v;show(padd (pput p m.e m.coef.v) q).length<=_;simp;omega
theorem zqc:gr0.v=0:=by rw[show gr0=rto 0 from zec.symm,zhi]
theorem z6a{p q:List GMono}{m n:Nat}(hv:PVal p)(hw:PVal q)(hp:psm p m)(hq:psm q n)(hm:1<=m)(hn:1<=n):psm (padd p q) (m+n+1):=by
 intro x hx;have hval:=zdb q hv;have hok:=GMono.ok_iff.1 ((zao.1 hval).1 x hx);have h1:x.coef.v=pc p x.e+pc q x.e:=by rw[<- z4d hval hx,zgh p (zao.1 hw).1]
 rw[<- znu hok.2.1,h1];have ga:∃ a:GRat,a.sm m/\a.v=pc p x.e:=by
  rcases zn1 hv x.e with h|⟨y,hy,h⟩
  ·exact⟨gr0,zgm m,by rw[zqc,h]⟩
  ·exact⟨y.coef,hp y hy,h.symm⟩
 have gb:∃ b:GRat,b.sm n/\b.v=pc q x.e:=by
  rcases zn1 hw x.e with h|⟨y,hy,h⟩
  ·exact⟨gr0,zgm n,by rw[zqc,h]⟩
  ·exact⟨y.coef,hq y hy,h.symm⟩
 obtain⟨a,a1,a2⟩:=ga;obtain⟨b,b1,b2⟩:=gb;rw[<- a2,<- b2];exact zii a1 b1 hm hn
theorem zyw(v:Value)(x:AV)(n:Nat)(M:Nat->Option Obj)(st:St)(h0:st.get 0=.nil)(h1:st.get 1=x)(h2:∀ t,st.get (t+2)=.undef)(hx:ARep ⟨M,fun _ _=>none,fun _ _=>0⟩ st x v)(t:Nat) :
  ARep ⟨M,fun _ _=>none,fun _ _=>0⟩ st (st.get t) (([.slice none 0 0,v].toArray++Array.replicate n Go.undef).getD t Go.undef):=by
 match t with
 | 0 =>
  have e:([.slice none 0 0,v].toArray++Array.replicate n Go.undef).getD 0 Go.undef=.slice none 0 0:=by simp[Array.getElem?_append]
  rw[h0,e];exact .nil
 | 1 =>
  have e:([.slice none 0 0,v].toArray++Array.replicate n Go.undef).getD 1 Go.undef=v:=by simp[Array.getElem?_append]
  rw[h1,e];exact hx
 | t+2=>rw[h2];exact .undef _
theorem z2h(k:Nat)(hk:k<=1073741824):SpV P F.lg [.slice none 0 0,.int .i64 k] (.fresh 6 []):=by
 refine SpV.of_vm (st:=⟨[(0,.nil),(1,.p (.int .i64 k))],[]⟩) c.lg (by simp) rfl (fun M t=>zyw _ _ _ M _ rfl rfl (fun t=>by simp[St.get,look]) (.p _ _ (.int _ _)) t) ?_;simp[g.lg];have e0:IntKind.i64.wrap (k:Int)=k:=i64w (by omega) (by omega);simp only[e0];refine⟨fun h=>⟨⟨by omega,by omega,by omega⟩,by omega,⟨_,Weak.trunc0 (by decide),?_⟩⟩,fun h=>⟨_,Weak.refl _,?_⟩⟩
 ·simp[look]
 ·simp[look]
theorem zfl{P:Program}{N:Nat}{st:St}{A:Option FA}{PostI:St->Option FA->Prop}(dead:List (List Nat)){is:List Ins}(h:vm P N (fun ex s=>ex=.normal->PostI s A) [.ins is dead] st):MIns P N is st A PostI:=by obtain⟨gs,s1,s2,r1,r2,r3⟩:=zcq _ (Nat.le_refl _) h;have h2:MIns P N (is++[]) st A PostI:=.run r1 ⟨s2,r2,r3 rfl⟩;simpa using h2
theorem zzu(p q:List GMono)(hl:p.length+q.length<=1073741824):Sp P F.lc [.sl (ens [p,q])] (.fresh 6 (ens (p++q))):=by
 refine Sp.of_mr c.lc (by simp) ?_;unfold g.lc;have e0:IntKind.i64.wrap (0+(p.length:Int))=p.length:=by rw[i64w (by omega) (by omega)];omega
 have e1:IntKind.i64.wrap ((p.length:Int)+q.length)=((p.length+q.length:Nat):Int):=i64w (by omega) (by omega);have e2:IntKind.i64.wrap (p.length:Int)=p.length:=i64w (by omega) (by omega);generalize hP:(fun ex s (_:Option FA)=>retP [(2,none)] (RV.fresh 6 (ens (p++q))) ex s)=Post;refine MR.gseq ?_;simp;refine MR.gseq ?_;simp;refine MR.gseq ?_;simp;refine zhb fun R hn hr hx=>?_;simp[g.nh,e2];refine hn _ ?_;refine zhb fun R hn hr hx=>?_;simp[g.nh,e1];refine⟨by omega,fun _=>hn _ ?_⟩;refine zhb fun R hn hr hx=>?_;simp[g.nh];refine hx _ _ ?_;simp;refine MR.gseq' (MR.greg (zn9 1 [[3,9,10,11]] ?_));simp;refine MIns.cons (zx6 (v:=.own 24 0 0 0) (z2h _ hl) (fun Z ys h=>?_) rfl rfl ?_)
 ·cases h with
  | cons _ _ _ _ h1 h =>
   cases h with
   | cons _ _ _ _ h2 h =>
    cases h;cases h1;cases h2.inv_p;simp
 refine zfl [[24]] ?_;simp;clear hn hr hx;subst hP;refine MR.of_vm ?_;simp;refine zhb fun R hn hr hx=>?_;simp[g.ni];refine⟨by omega,hn _ ?_⟩;refine zhb fun R hn hr hx=>?_;simp[g.ni];refine⟨by omega,hn _ ?_⟩;refine zhb fun R hn hr hx=>?_;simp[g.ni];refine hx _ _ ?_;simp
end Go.Ab
