/- Lemmas for the law ComposeBuildsMadeModels, part 38. No conditions. -/
import Derived.Test.YthhdboljpgdcpaaGreatDoorAP26
set_option maxRecDepth 100000
set_option maxHeartbeats 4000000
set_option linter.all false
namespace Go.Ab
structure mG where
 p:Cz->St->Prop
 m:∀ Z st Z' st',cV Z st Z' st'->p Z st->p Z' st'
def Hw{st:St}{s g:Nat}{o:bD}(h:st.site s=[])(b:st.obj s g=some o):False:=by simp_all
theorem qq.later{o:Option j3}{K:Ctx}{Z Z':Cz}{st st':St}{w w':World}(hl:mI Z st w Z' st' w')(h:qq o K Z st w):qq o K Z' st' w':=by
 cases o with
 | none=>trivial
 | some m =>
  obtain⟨b,d,es,clock,h3,i,j,k⟩:=h;obtain⟨l,n⟩:=hl.f _ b;exact⟨l,d,es,clock,by rw[n];exact h3,i.mono hl.M,j.mono hl.M,k⟩
def gB(q:mG)(o:Option j3):FA:=⟨0,λ_ _=>True,λ_ _ _ _ h=>h,false,true,λK Z st w=>q.p Z st/\qq o K Z st w,λ_ _ _ _ _ _ _ b h=>⟨q.m _ _ _ _ b.Ag h.1,qq.later b h.2⟩⟩
structure CF (o o':Option j3) (A A':Option FA):Prop where
 get:∀ K Z st w,nM A K Z st w->qq o K Z st w
 put:∀ K Z st w Z' st' w',nM A K Z st w->yk (yW o) Z st w Z' st' w'->qq o' K Z' st' w'->nM A' K Z' st' w'
def CF.gB(q:mG)(o o':Option j3):CF o o' (some (gB q o)) (some (gB q o')) :=
 ⟨λ_ _ _ _ h=>h.2,λ_ _ _ _ _ _ _ h hl b=>⟨q.m _ _ _ _ (.dR hl.z) h.1,b⟩⟩
def CQ(b:HV)(st:St)(d:Option Nat):St:=(sM b st (d.getD 0)).2.put d (sM b st (d.getD 0)).1
section
variable {P:Program} {K:Ctx} {Z Z' Z2:Cz} {st st' st1 st2:St} {w w':World} {a:Act} {N:Nat} {A B:Option FA} {Post:Exit->St->Option FA->Prop} {b4:St->Option FA->Prop} {ks:List Nat} {v:AV}
theorem Hu{d:Option Nat}{f:FuncId}{xs:List bL}{vs:List AV}{hp l:List Site}{L p:Option j3}{t:HV}(z:kO P f vs hp L t l p)(C:CF L p A B)(y:p.map (·.1)=L.map (·.1))(Y:xs.map st.ev=vs)(hk:pZ st hp hp)(W:l.map (·.1)=hp.map (·.1))
  (E:(kX (hp.map (·.1)) vs&&dQ (hp.map (·.1)) hp&&vQ (hp.map (·.1)) t&&dQ (hp.map (·.1)) l)=true) (k:b4 (CQ t ⟨st.sl,l++st.hp⟩ d) B):pW P N ⟨d,.call f xs,none⟩ st A b4:=by
 intro ad j o K Z w a Q Kt hN hj O n hA hK;obtain⟨h1,h2,h3,h4⟩:=DB O;obtain⟨I,h,X,hf,hh,D⟩:=La h1;have V:o.guard=none:=by
  cases V:o.guard with
  | none=>rfl
  | some jb =>
   rw[V]at h2;simp only[zO]at h2
   grind
 have hw:Region.wanted o (yielded ad a.tmps)=true:=by simp[Region.wanted,V]
 have hd:d=o.dst:=h3;obtain⟨R,z⟩:=z;have G:=BC D n;rw[Y]at G;have S:=fD hh n;have U:a.eval h=.func (.func f) #[] #[]:=by
  have hp:=S.cA;generalize a.eval h=F at hp ⊢;cases hp with
  | fn _ _ ag h=>cases h;rfl
 have H:(execOp a.eval o).run P w=.ok (.enter f ((I.args.toList.map a.eval).toArray)) w:=by
  have:=Fj (P:=P) (w:=w) (args:=(I.args.toList.map a.eval).toArray) R;simp only[execOp,X,resolve,hf,U,Deferred.ofValue,mT,oI,qB,invoke];have e : #[]++I.args.map a.eval ++ #[]=(I.args.toList.map a.eval).toArray:=by simp[<- Array.toList_map]
  rw[e];exact this
 simp only[kq]at E;obtain⟨⟨⟨r1,r2⟩,r3⟩,r4⟩:=E;have i:∀ s,(hp.map (·.1)).contains s=true->st.site s=look hp s []:=λs n=>by obtain⟨q,hq,rfl⟩:=cD.1 (DW.1 n);exact G9 hk q hq
 refine(show o.wp P a w Kt Q from ?_) |> λh=>by unfold wpOp;simp only[hj,hw,cB];exact .inl h
 unfold Oper.wp;rw[H,DV];have u:=C.get _ _ _ _ hA;obtain⟨u1,u2⟩:=Ot i r2 n.heap u;refine(z Z w _ u1 u2 (aG.gN (st:=st) (st2:=⟨[],hp⟩) (Z2:=Z) (λs h=>(i s h).symm) (λ_ _ h=>h) (λ_ _ _=>⟨rfl,rfl⟩) G r1)).mono ?_;rintro e w' ⟨x,Z',rfl,p1,p2,p3,p4⟩;obtain⟨Z2,q1,q2,q3,q4,q5⟩:=Pr y W i r4 (by cases t with|av v=>exact r3|fr _ _=>rfl|bx _ _ _=>exact(Bool.and_eq_true_iff.1 r3).2) n.heap u p1 p2 p3 p4;obtain⟨Z3,v,af,e1,t1,t2,t3,t4,t5,t6⟩:=sh.take (dd:=d.getD 0) q1 q2 r3 n.heap.keep.size q5 (λb J=>by
  cases p with
  | none=>exact J.elim
  | some m' =>
   cases L with
   | none=>cases y
   | some m0 =>
    have e:m'.1=m0.1:=by simpa using y
    have J:b=m'.1:=J;rw[J,e];exact u.1.lt)
 simp only[CQ,e1]at k;refine hK _ _ Z3 _ _ k ?_ ((C.put _ _ _ _ Z3 af w' hA ⟨λb o h=>t4.M b o (q3.M b o h),λr hR E=>?_,q3.trans t4⟩ t6).site λs=>pM _ _ _ s)
 .rw[hd];exact n.put (by rw[t3]) (q3.trans t4) t1 t2 (by subst hN;exact h4) n.defers
 .obtain⟨y1,y2⟩:=q4.f r hR E;exact⟨t5 r E.lt y1,y2⟩
def tQ:Nat->List AV->List (Nat × AV)
 | _,[]=>[]
 | i,v::r=>(i,v)::tQ (i+1) r
theorem PA:∀ (args:List AV) (i t:Nat),look (tQ i args) t AV.undef=if t<i then .undef else(args[t - i]?).getD .undef
 | [],i,t=>by simp[tQ]
 | v::r,i,t=>by
  simp[tQ];split
  .grind
  .rename_i h;rw[PA r (i+1) t];by_cases b:t<i
   .grind
   .grind
def ME(rs:List (Nat × Option Nat))(v:AV)(b:List Site)(f:Exit)(s:St):Prop :=
 (f=.ret\/f=.normal)/\∃ d,aA s d/\∃ h,oE d rs=some h/\dB h=v/\pZ d b b
def MF(hp b:List Site)(h:St):HV->AV->Prop
 | .av v,u=>u=v
 | .fr f d,u=>b=hp/\((u=.nil/\d=[])\/∃ s g,(hp.map (·.1)).contains s=false/\u=.own s g 0 d.length/\h.obj s g=some ⟨f,d.map .p⟩)
 | .bx f e i,u=>b=hp/\∃ s g,(hp.map (·.1)).contains s=false/\u=.bP (.ptr s g 0 0::i.map .p)/\h.obj s g=some ⟨f,[e]⟩
def Co(rs:List (Nat × Option Nat))(hp:List Site)(f:HV)(b:List Site)(h:Exit)(s:St):Prop :=
 (h=.ret\/h=.normal)/\∃ d,aA s d/\∃ i,oE d rs=some i/\MF hp b d f (dB i)/\pZ d b b
theorem kO.gG{f:FuncId}{vs:List AV}{hp iJ:List Site}{z F:Option j3}{res:HV}{n np:Nat}{b:GC}{rs:List (Nat × Option Nat)}(j:aV P f=some ⟨n,np,b.er,rs⟩)(hn:vs.length<=n)(bk:F.map (·.1)=z.map (·.1))
  (bo:hp.all (λq=>decide (fP<=q.1)&&decide (q.1<999999))=true) (aq:iJ.map (·.1)=hp.map (·.1)) (hr:(vQ (hp.map (·.1)) res&&dQ (hp.map (·.1)) iJ)=true)
  (h:∀ q:mG,MR P n b.er ⟨tQ 0 vs,hp⟩ (some (gB q z)) λex s B=>B=some (gB q F)/\Co rs hp res iJ ex s):kO P f vs hp z res iJ F:=by
 unfold aV at j;split at j
 .rename_i fn hf;split at j
  .rename_i ag;split at j
   .rename_i c y;split at j
    .rename_i bd cs h1 h2;obtain⟨rfl,_,rfl,rfl⟩:=j;refine⟨⟨fn,hf,by rw[y];rfl,ag⟩,λZ w vals hH U hv=>?_⟩;refine calls_of_wp hf y ?_;have hl:=hv.length;have br:∀ s,(⟨tQ 0 vs,hp⟩:St).site s=(⟨[],hp⟩:St).site s:=λ_=>rfl;have h0:aN ⟨w,Z.M,λb=>lD Z ⟨[],hp⟩ b\/yW z b,fn.ntmps⟩ Z ⟨tQ 0 vs,hp⟩ w { tmps:=vals.toArray++Array.replicate (fn.ntmps - vals.toArray.size) Go.undef,defers:=[] }:=by
      refine⟨λt=>?_,rfl,by simp;omega,bC.gQ ⟨hH.bR,hH.inj,hH.mem,hH.sep,hH.own,hH.m0,hH.eE,hH.keep⟩ br⟩;have ap:(⟨tQ 0 vs,hp⟩:St).get t=(vs[t]?).getD .undef:=by have:=PA vs 0 t;simpa[St.get]using this
      rw[ap];cases hx:vs[t]? with
      | none=>exact .undef _
      | some u =>
       obtain⟨x,g1,R⟩:=hv.get t u hx;have ca:=(List.getElem?_eq_some_iff.1 g1).1;have:(vals.toArray++Array.replicate (fn.ntmps - vals.toArray.size) Go.undef).getD t Go.undef=x:=by simp[Array.getElem?_append,ca];have:=(List.getElem?_eq_some_iff.1 g1).2;simpa using this
       rw[this];exact aM.mono (sC br Z) R
     let q:mG:=⟨λZ' st'=>cV Z ⟨tQ 0 vs,hp⟩ Z' st',λ_ _ _ _ h k=>k.trans h⟩
     have aw:qq z ⟨w,Z.M,λb=>lD Z ⟨[],hp⟩ b\/yW z b,fn.ntmps⟩ Z ⟨tQ 0 vs,hp⟩ w:=by
      cases z with
      | none=>trivial
      | some m=>exact⟨⟨U.1.m,λs g o a1=>U.1.o s g o a1,U.1.lt⟩,U.2⟩
     refine h q _ h1 _ _ w _ _ rfl h0 ⟨cV.refl _ _,aw⟩ (λex st' A' Z' w' a' cc ce al=>?_);obtain⟨rfl,bu,s1,hw,us,cf,E,X⟩:=cc;obtain⟨J,l,au⟩:=hw.frame ce;have W:cV Z ⟨tQ 0 vs,hp⟩ J s1:=cV.trans al.1 au.Ag;have C:=qq.later au al.2;simp only[kq]at hr;have d:∀ s,(hp.map (·.1)).contains s=true->s1.site s=(⟨[],iJ⟩:St).site s:=λs hs=>by rw[<- aq]at hs;obtain⟨q,hq,rfl⟩:=cD.1 (DW.1 hs);exact G9 X q hq
     have D:∀ s,(hp.map (·.1)).contains s=true->fP<=s/\s<999999:=λs hs=>by obtain⟨q,hq,rfl⟩:=cD.1 (DW.1 hs);have:=kR.1 bo q hq;rw[kq,decide_eq_true_eq,decide_eq_true_eq]at this;exact this
     have e0:∀ s,(hp.map (·.1)).contains s=false->(⟨[],hp⟩:St).site s=[]:=λs h=>Fa h;have e1:∀ s,(hp.map (·.1)).contains s=false->(⟨[],iJ⟩:St).site s=[]:=λs h=>Fa (by rw[aq];exact h);have hz:cO Z ⟨[],hp⟩ J ⟨[],iJ⟩:=by
      refine⟨λb o y=>l.heap.m0 b o y,λs=>?_,λs g hg hd=>?_,λs g o Q=>?_⟩<;>cases j:(hp.map (·.1)).contains s
      .rw[e0 s j];exact rK _
      .rw[<- d s j];exact W.len s (D s j).1 (D s j).2
      .rw[e0 s j]at hg;exact absurd hg (Nat.not_lt_zero _)
      .rw[fq (d s j).symm];exact W.dead s g (D s j).1 (D s j).2 hg hd
      .exact(Hw (e0 s j) Q).elim
      .rw[fq (d s j).symm];exact W.live s g o (D s j).1 (D s j).2 Q
     have ao:bC (oy Z hp z w) J ⟨[],iJ⟩ w'/\qq F (oy Z hp z w) J ⟨[],iJ⟩ w':=by
      have k0:∀ {s g o},(⟨[],iJ⟩:St).obj s g=some o->(hp.map (·.1)).contains s=true:=λ{s g o} Q=>by
       cases h:(hp.map (·.1)).contains s with
       | true=>rfl
       | false=>exact(Hw (e1 s h) Q).elim
      have z:∀ {s g o},(⟨[],iJ⟩:St).obj s g=some o->s1.obj s g=some o:=λ{s g o} Q=>by rw[fq (d s (k0 Q))];exact Q
      have hq:=l.heap
      refine⟨⟨λs g o Q=>oA.gN (st:=s1) (st2:=⟨[],iJ⟩) (Z2:=J) (λs h=>(d s h).symm) (λ_ _ h=>h) (λ_ _ _=>⟨rfl,rfl⟩) (k0 Q) (EP hr.2 Q) (hq.bR s g o (z Q)),λs g s' g' o o' b a1 a2=>hq.inj s g s' g' o o' b (z a1) (z a2),hq.mem,λs g o b a1=>hq.sep s g o b (z a1),
       λs g o b a1 b1=>hq.own s g o b (z a1) b1,hq.m0,hq.eE,hq.keep⟩,?_⟩
      cases F with
      | none=>trivial
      | some m=>exact⟨⟨C.1.m,λs g o a1=>C.1.o s g o (z a1),C.1.lt⟩,C.2⟩
     have af:a'.defers=[]/\∃ u,(results fn a'.tmps).run P w'=.ok u w'/\∃ x Z',Ending.returned u=.returned x/\bC (oy Z hp z w) Z' ⟨[],iJ⟩ w'/\sh res Z' ⟨[],iJ⟩ w w' x/\cO Z ⟨[],hp⟩ Z' ⟨[],iJ⟩/\qq F (oy Z hp z w) Z' ⟨[],iJ⟩ w':=by
      obtain⟨xs,g1,R⟩:=CY l h2 cf;have G:=R.dB;have key:iJ=hp->∀ {s g:Nat} {o:bD} {b:Nat},(iJ.map (·.1)).contains s=false->s1.obj s g=some o->J.B s g=some b->(∀ S R o2,(⟨[],iJ⟩:St).obj S R=some o2->J.B S R≠some b)/\w.heap.size<=b:=by
       rintro rfl s g o b H i y;have V:∀ S R o2,(⟨[],iJ⟩:St).obj S R=some o2->J.B S R≠some b:=λS R o2 a1 b1=>by
        have hk:(iJ.map (·.1)).contains S=true:=by
         cases h:(iJ.map (·.1)).contains S with
         | true=>rfl
         | false=>exact(Hw (e0 S h) a1).elim
        obtain⟨rfl,rfl⟩:=l.heap.inj _ _ _ _ _ _ b i (by rw[fq (d S hk)];exact a1) y b1;rw[hk]at H;cases H
       refine⟨V,?_⟩;obtain(hX|hX)|hX:=l.heap.own s g _ b i y
       .exfalso;obtain⟨Y,G,o3,c1,c2⟩:=hX;have hk:(iJ.map (·.1)).contains Y=true:=by
         cases h:(iJ.map (·.1)).contains Y with
         | true=>rfl
         | false=>exact(Hw (e0 Y h) c1).elim
        have c3:s1.obj Y G=some o3:=by rw[fq (d Y hk)];exact c1
        obtain d1|⟨o4,d1,d2,d3,d4,d5⟩:=W.live Y G o3 (D Y hk).1 (D Y hk).2 c1
        .rw[c3]at d1;cases d1
        .exact V Y G o3 c1 (by rw[d4];exact c2)
       .exfalso;cases z with
        | none=>exact hX.elim
        | some m =>
         cases F with
         | none=>cases bk
         | some m' =>
          have e:m'.1=m.1:=by simpa using bk
          have hX:b=m.1:=hX;rw[hX,<- e]at y;exact C.1.o _ _ _ i y
       .exact hX
      have g4:sh res J ⟨[],iJ⟩ w w' (if h:xs.toArray.size=1 then xs.toArray[0]else .tuple xs.toArray):=by
       generalize (if h:xs.toArray.size=1 then xs.toArray[0]else .tuple xs.toArray)=x at G;cases res with
       | av v =>
        have E:dB us=v:=E;rw[E]at G;exact aM.gN (st:=s1) (st2:=⟨[],iJ⟩) (Z2:=J) (λs h=>(d s h).symm) (λ_ _ h=>h) (λ_ _ _=>⟨rfl,rfl⟩) G hr.1
       | bx sz e ct =>
        obtain⟨O,s,g,H,e1,i⟩:=E;rw[e1]at G;have hO:=l.heap.bR s g _ i;cases G with
        | bP _ vals cm =>
         cases cm with
         | cons _ x0 _ ys co cp =>
          cases co with
          | kK _ _ _ _ _ _ hd=>exact(vv i hd).elim
          | ptr _ _ _ _ o' b I y =>
           rw[i]at I;cases I;obtain⟨cur,T,vals,l1,l2,l3,l4,l5,l6⟩:=hO.bU b y;obtain⟨k1,k2⟩:=key O (by rw[O];exact H) i y;simp only[List.flatMap_cons,List.flatMap_nil,List.append_nil]at l2;refine⟨b,_,cur,T,vals,ys,by simp,cp.oT,k2,l.heap.sep s g _ b i y,l1,?_,l3,l4,⟨by simpa using l5,l6⟩,λq hq=>?_,k1⟩
           .simp only[vQ,kq]at hr;exact aG.gN (st:=s1) (st2:=⟨[],iJ⟩) (Z2:=J) (λs h=>(d s h).symm) (λ_ _ h=>h) (λ_ _ _=>⟨rfl,rfl⟩) l2 (Lx hr.1.2)
           .exact hO.one q (by simpa using hq)
       | fr sz es =>
        obtain⟨O,E⟩:=E;obtain⟨e1,rfl⟩|⟨s,g,H,e1,i⟩:=E
        .rw[e1]at G;cases G;exact⟨.inl ⟨rfl,rfl⟩,λb n c h=>by cases h⟩
        .rw[e1]at G;have hO:=l.heap.bR s g _ i;generalize hL:es.length=L at G;cases G with
         | dU _ _ o' I y =>
          have h0:=hO.xt y;have bt:es=[]:=by simpa using h0
          subst bt;exact⟨.inl ⟨rfl,rfl⟩,λb n c h=>by cases h⟩
         | eN _ _ _ _ _ _ _ hd=>exact(vv i hd).elim
         | own _ _ _ _ o' b ad c I y k1 k2 k3 k4 =>
          rw[i]at I;cases I;subst hL;obtain⟨rfl,rfl⟩:=k1 rfl;obtain⟨cur,T,vals,l1,l2,l3,l4,l5,l6⟩:=hO.bU b y;obtain⟨V,bb⟩:=key O (by rw[O];exact H) i y;refine⟨.inr ⟨b,_,cur,T,vals,rfl,bb,l.heap.sep s g _ b i y,l1,?_,l3,l4,by simpa using l5,l6,λq hq=>?_⟩,λb' n c hx=>by cases hx;exact V⟩
          .rw[qT]at l2;exact l2.oT
          .have:=hO.one (.p q) (by rw[qT];exact cD.2 ⟨q,hq,rfl⟩);exact this
      refine⟨l.defers,_,?_,_,J,rfl,ao.1,g4,hz,ao.2⟩;unfold results;rw[DR];simp only[mT,map_eq_pure_bind,oI];exact congrArg (λr=>(Result.andThen r λa w'=>Result.ok a.toArray w').andThen λ(a:Array Value) w'=>Result.ok (if h:a.size=1 then a[0]else Value.tuple a) w') g1
     obtain rfl|rfl:=bu
     .exact af
     .exact af
    .cases j
   .cases j
  .cases j
 .cases j
def T0.gG{f:FuncId}{vs:List AV}{hp iJ:List Site}{n np:Nat}{b:GC}{rs:List (Nat × Option Nat)}(j:aV P f=some ⟨n,np,b.er,rs⟩)(hn:vs.length<=n)
  (d:hp.all (λq=>decide (fP<=q.1)&&decide (q.1<999999))=true) (i:iJ.map (·.1)=hp.map (·.1)) (k:(pK (hp.map (·.1)) v&&dQ (hp.map (·.1)) iJ)=true)
  (h:∀ A:FA,A.nb=true->MR P n b.er ⟨tQ 0 vs,hp⟩ (some A) λex s B=>B=some A/\ME rs v iJ ex s):T0 P f vs hp v iJ :=
 kO.gG j hn rfl d i k λq=>h (gB q none) rfl
end
abbrev Sg:=Nat->Nat->Nat × Nat
mutual
def sub(σ : Sg):AV->AV
 | .own s g b h=>.own (σ s g).1 (σ s g).2 b h
 | .ptr s g j b=>.ptr (σ s g).1 (σ s g).2 j b
 | .agg d=>.agg (fZ σ d)
 | .fn f d=>.fn f (fZ σ d)
 | .bP d=>.bP (fZ σ d)
 | .p v=>.p v
 | .nil=>.nil
 | .cp v i b=>.cp v i b
 | .skip=>.skip
 | .undef=>.undef
def fZ(σ : Sg):List AV->List AV
 | []=>[]
 | v::r=>sub σ v::fZ σ r
end
def iE(σ : Sg)(o:bD):bD:=⟨o.sz,fZ σ o.es⟩
structure rF (st st':St) (σ : Sg):Prop where
 live:∀ s g o,st.obj s g=some o -> σ s g=(aL,0)\/st'.obj (σ s g).1 (σ s g).2=some (iE σ o)
 rE:∀ s g,g<(st.site s).length->st.obj s g=none->(σ s g).2<(st'.site (σ s g).1).length/\st'.obj (σ s g).1 (σ s g).2=none
 inj:∀ s g s' g' o o',st.obj s g=some o->st.obj s' g'=some o' -> σ s g = σ s' g' -> σ s g≠(aL,0)->s=s'/\g=g'
 all:∀ s' g' o',st'.obj s' g'=some o'->∃ s g o,st.obj s g=some o /\ σ s g=(s',g')/\o'=iE σ o
 dead:0<(st'.site aL).length/\st'.obj aL 0=none
section
variable {P:Program} {K:Ctx} {Z Z':Cz} {st st':St} {w:World} {a:Act} {σ : Sg}
theorem xL:∀ (l:List AV),fZ σ l=l.map (sub σ)
 | []=>rfl
 | v::r=>by simp[fZ,xL r]
def Y4(v:AV):(sub σ v).sz=v.sz:=by cases v<;>simp[sub]<;>simp[xL]
def R8(v:AV):(sub σ v).one=v.one:=by cases v<;>simp[sub]<;>simp
theorem W8(v:AV):(sub σ v).cells=v.cells.map (sub σ):=by
 cases v with
 | agg b=>simp[sub,xL]
 | p v=>?_
 | _=>rfl
 cases v<;>first|rfl|skip
 simp only[AV.cells,yI];apply vA;intro x _;rfl
theorem PZ(es:List AV):(fZ σ es).flatMap AV.cells=(es.flatMap AV.cells).map (sub σ):=by
 induction es with
 | nil=>rfl
 | cons e es b=>simp only[fZ,jG,qY,b,W8]
open Classical in
noncomputable def wG(st:St)(σ : Sg)(d b:Nat):Nat × Nat:=if h:∃ i:Nat × Nat,(∃ o,st.obj i.1 i.2=some o) /\ σ i.1 i.2=(d,b)then h.choose else(0,0)
def C3(h:rF st st' σ){s g:Nat}{o:bD}(f:st.obj s g=some o)(hn : σ s g≠(aL,0)):wG st σ (σ s g).1 (σ s g).2=(s,g):=by
 have b:∃ i:Nat × Nat,(∃ o,st.obj i.1 i.2=some o) /\ σ i.1 i.2=((σ s g).1,(σ s g).2):=⟨(s,g),⟨o,f⟩,rfl⟩;unfold wG;rw[dif_pos b];obtain⟨⟨p,j⟩,k⟩:=b.choose_spec;have d : σ b.choose.1 b.choose.2 = σ s g:=k;obtain⟨l,n⟩:=h.inj _ _ _ _ _ _ j f d (by rw[d];exact hn)
 grind
noncomputable def Cz.sub(Z:Cz)(st:St)(σ : Sg):Cz where
 M:=Z.M
 B s g:=Z.B (wG st σ s g).1 (wG st σ s g).2
 cap s g:=Z.cap (wG st σ s g).1 (wG st σ s g).2
mutual
theorem aM.sub(h:rF st st' σ):∀ {v:AV} {x:Value},aM Z st v x->aM (Z.sub st σ) st' (Ab.sub σ v) x
 | _,_,.p v x hp=>.p v x hp
 | _,_,.nil=>.nil
 | _,_,.dU s g o k n=>by
  simp only[Ab.sub];by_cases hd : σ s g=(aL,0)
  .rw[hd];exact .eN _ _ _ _ _ _ h.dead.1 h.dead.2
  .exact .dU _ _ _ ((h.live s g o k).resolve_left hd) (by simp only[Cz.sub,C3 h k hd,n])
 | _,_,.own s g off len o b ad c k n j l h3 t=>by
  simp only[Ab.sub];by_cases hd : σ s g=(aL,0)
  .rw[hd];exact .eN _ _ _ _ _ _ h.dead.1 h.dead.2
  .exact .own _ _ _ _ _ b ad c ((h.live s g o k).resolve_left hd) (by simp only[Cz.sub,C3 h k hd,n]) (by simp only[Cz.sub,C3 h k hd];exact j) l (by simpa[iE,xL]using h3) t
 | _,_,.eN s g off len ad c r i=>by
  simp only[Ab.sub];exact .eN _ _ _ _ _ _ (h.rE s g r i).1 (h.rE s g r i).2
 | _,_,.ptr s g ix off o b k n=>by
  simp only[Ab.sub];by_cases hd : σ s g=(aL,0)
  .rw[hd];exact .kK _ _ _ _ _ h.dead.1 h.dead.2
  .exact .ptr _ _ ix off (iE σ o) b ((h.live s g o k).resolve_left hd) (by simp only[Cz.sub,C3 h k hd,n])
 | _,_,.kK s g ix off ad r i=>by
  simp only[Ab.sub];exact .kK _ _ _ _ _ (h.rE s g r i).1 (h.rE s g r i).2
 | _,_,.cp v vC off b o cur T fr vals y j l h3 t z=>.cp v vC off b o cur T fr vals y j l h3 t z
 | _,_,.agg cs vals j l=>by
  simp only[Ab.sub];exact .agg _ vals (λc u=>by rw[xL]at u;obtain⟨d,hd,rfl⟩:=cD.1 u;rw[R8];exact j d hd) (aG.sub h l)
 | _,_,.fn f cs vals j=>by simp only[Ab.sub];exact .fn f _ vals (aG.sub h j)
 | _,_,.bP vs vals j=>by simp only[Ab.sub];exact .bP _ vals (aG.sub h j)
 | _,_,.skip=>.skip
 | _,_,.undef x=>.undef x
theorem aG.sub(h:rF st st' σ):∀ {v:List AV} {x:List Value},aG Z st v x->aG (Z.sub st σ) st' (fZ σ v) x
 | _,_,.nil=>.nil
 | _,_,.cons v x vs xs b hs=>.cons _ _ _ _ (aM.sub h b) (aG.sub h hs)
end
def bC.sub(h:bC K Z st w)(u:rF st st' σ):bC K (Z.sub st σ) st' w:=by
 have d:∀ {s' g':Nat} {o':bD},st'.obj s' g'=some o'->∃ s g o,st.obj s g=some o/\o'=iE σ o /\ σ s g=(s',g')/\(Z.sub st σ).B s' g'=Z.B s g/\(Z.sub st σ).cap s' g'=Z.cap s g:=by
  intro s' g' o' i;obtain⟨s,g,o,j,E,rfl⟩:=u.all s' g' o' i;have hd : σ s g≠(aL,0):=λe=>by rw[E]at e;cases e;rw[u.dead.2]at i;cases i
  have:=C3 u j hd;rw[E]at this;exact⟨s,g,o,j,rfl,E,by simp only[Cz.sub,this],by simp only[Cz.sub,this]⟩
 refine⟨λs' g' o' i=>?_,λs g s' g' o o' b i H f p=>?_,h.mem,λs g o b i f=>?_,λs g o b i f=>?_,h.m0,h.eE,h.keep⟩
 .obtain⟨s,g,r,j,rfl,_,l,C⟩:=d i;obtain⟨U,V,W,X,Y⟩:=h.bR s g r j;refine⟨U,λe J=>?_,λc I=>?_,λf=>?_,λb f=>?_⟩
  .simp only[iE,xL,cD]at J;obtain⟨M,G,rfl⟩:=J;rw[Y4];exact V M G
  .simp only[iE,PZ,cD]at I;obtain⟨L,F,rfl⟩:=I;rw[R8];exact W L F
  .rw[l]at f;simp[iE,X f,fZ]
  .rw[l]at f;obtain⟨cur,T,vals,x,y,O,Q,R,S⟩:=Y b f;refine⟨cur,T,vals,x,?_,O,by rw[C];exact Q,by rw[C];simpa[iE,xL]using R,by rw[C];exact S⟩;show aG _ _ ((fZ σ r.es).flatMap AV.cells) vals;rw[PZ,<- xL];exact aG.sub u y
 .obtain⟨t,k,r,j,_,q1,l,_⟩:=d i;obtain⟨t',k',ad,D,_,n,z,_⟩:=d H;rw[l]at f;rw[z]at p;obtain⟨x,y⟩:=h.inj _ _ _ _ _ _ b j D f p;subst x;subst y;rw[q1]at n;exact⟨congrArg Prod.fst n,congrArg Prod.snd n⟩
 .obtain⟨t,k,r,j,_,_,l,_⟩:=d i;rw[l]at f;exact h.sep _ _ _ b j f
 .obtain⟨t,k,r,j,_,_,l,_⟩:=d i;rw[l]at f;exact h.own _ _ _ b j f
def LW(st:St)(σ : Sg):Prop:=∀ s g,fP<=s->s<999999->g<(st.site s).length -> σ s g=(s,g)
theorem aA.sub(h:rF st st' σ)(hp:LW st σ){keep:List Nat}(n:st'.sl=keep.map λt=>(t,Ab.sub σ (st.get t))):aA st st':=by
 intro K Z w a hs;have l:∀ {s g:Nat},s<999999->(s,g)≠(aL,0):=λh e=>by
  simp_all
 have p:∀ s g,fP<=s->s<999999->g<(st.site s).length->g<(st'.site s).length:=λs g a b i=>by
  have e:=hp s g a b i;cases d:st.obj s g with
  | none=>have:=(h.rE s g i d).1;rw[e]at this;exact this
  | some o =>
   obtain f|f:=h.live s g o d
   .grind
   .rw[e]at f;exact nO f
 refine⟨Z.sub st σ,⟨λt=>?_,hs.defers,hs.size,hs.heap.sub h⟩,⟨λs a b=>?_,λs g a b i d=>?_,λs g o a b d=>?_⟩⟩;rotate_left
 .grind
 .have:=(h.rE s g i d).2;rw[hp s g a b i]at this;exact this
 .have e:=hp s g a b (nO d);obtain f|f:=h.live s g o d
  .grind
  .have j:=C3 h d (by rw[e];exact l b);rw[e]at f j;exact .inr ⟨_,f,rfl,by simp[iE,xL],by simp[Cz.sub,j],by simp[Cz.sub,j]⟩
 have:st'.get t=look (keep.map λt=>(t,Ab.sub σ (st.get t))) t .undef:=by rw[<- n];rfl
 rw[this];obtain k|k:=KR (λt=>Ab.sub σ (st.get t)) t keep
 .rw[k];exact(hs.aR t).sub h
 .rw[k];exact .undef _
def pJ(st:St)(s:Nat):List (Nat × Nat)->Option (Nat × Nat)
 | []=>none
 | (x,k)::r=>if x=s then some (0,k)else(pJ st s r).map λq=>((st.site x).length - k+q.1,q.2)
def tZ(st:St)(s:Nat):List (Nat × List (Nat × Nat))->Option (Nat × Nat × Nat)
 | []=>none
 | (b,l)::r=>match pJ st s l with
  | some q=>some (b,q)
  | none=>tZ st s r
def nT(st:St)(b:List (Nat × List (Nat × Nat))):Sg:=λs g=>match tZ st s b with
 | some (d,o,k)=>if g<k then(aL,0)else(d,o+(g - k))
 | none=>(aL,0)
def mE(st:St)(σ : Sg):List (Nat × Nat)->List (Option bD)
 | []=>[]
 | (x,k)::r=>((st.site x).drop k).map (Option.map (iE σ))++mE st σ r
def sI(st:St)(σ : Sg):List (Nat × List (Nat × Nat))->List Site
 | []=>[(aL,[none])]
 | (b,l)::r=>(b,mE st σ l)::sI st σ r
def St.lQ(st:St)(keep:List Nat)(lQ:List (Nat × List (Nat × Nat))):St:=⟨keep.map λt=>(t,sub (nT st lQ) (st.get t)),sI st (nT st lQ) lQ⟩
def BN(s:Nat):List (Nat × Nat)->Bool
 | (x,k)::_=>x == s&&k == 0
 | []=>false
def DI(hp:List Site)(b:List (Nat × List (Nat × Nat))):Bool:=hp.all λq=>decide (q.1<fP)||decide (999999<=q.1)||b.any λp=>p.1 == q.1&&BN q.1 p.2
def y9(hp:List Site)(b:List (Nat × List (Nat × Nat))):Bool:=DI hp b&&wY (b.flatMap λq=>q.2.map (·.1))&&wY (aL::b.map (·.1))
theorem Ho{s:Nat}:∀ {l:List (Nat × Nat)} {q:Nat × Nat},pJ st s l=some q->s∈l.map (·.1)
 | (x,k)::r,q,h=>by
  simp[pJ]at h;split at h
  .grind
  .obtain⟨d,b,_⟩:=cM h;exact tV _ (Ho b)
theorem z72{s g:Nat}:∀ {l:List (Nat × Nat)} {o k:Nat},pJ st s l=some (o,k)->k<=g->g<(st.site s).length->(mE st σ l)[o+(g - k)]?=some (((st.site s)[g]?.getD none).map (iE σ))
 | (x,d)::r,o,k,h,p,n=>by
  simp only[pJ]at h;simp only[mE];split at h
  .grind
  .obtain⟨q,i,j⟩:=cM h;obtain⟨f,b⟩:=q;obtain⟨rfl,rfl⟩:=j;rw[qC (by simp;omega),rL,lp,show(st.site x).length - d+f+(g - b) - ((st.site x).length - d)=f+(g - b) by omega];exact z72 i p n
theorem SK{b:Nat}{o':bD}:∀ {l:List (Nat × Nat)},(l.map (·.1)).Nodup->(mE st σ l)[b]?=some (some o')->∃ s g o off k,pJ st s l=some (off,k)/\k<=g/\off+(g - k)=b/\st.obj s g=some o/\o'=iE σ o
 | [],_,h=>by simp[mE]at h
 | (x,k)::r,i,h=>by
  simp only[mE]at h;by_cases d:b<(st.site x).length - k
  .rw[List.getElem?_append_left (by simpa using d),List.getElem?_map,List.getElem?_drop,List.getElem?_eq_getElem (show k+b<(st.site x).length by omega)]at h;simp only[Option.map_some,Option.some.injEq]at h;obtain⟨o,f,rfl⟩:=cM h;exact⟨x,k+b,o,0,k,by simp[pJ],by omega,by omega,by unfold St.obj;rw[List.getElem?_eq_getElem (show k+b<(st.site x).length by omega),f];rfl,rfl⟩
  .rw[List.getElem?_append_right (by simpa using Nat.not_lt.1 d),List.length_map,List.length_drop]at h;rw[List.map_cons,List.nodup_cons]at i;obtain⟨s,g,o,off,u,f,n,y,p,t⟩:=SK i.2 h;have j:x≠s:=by rintro rfl;exact i.1 (Ho f)
   exact⟨s,g,o,(st.site x).length - k+off,u,by simp only[pJ,aY j,f];rfl,n,by omega,p,t⟩
theorem RE{s g y f:Nat}:∀ {l:List (Nat × Nat)} {o u k i:Nat},pJ st s l=some (o,k)->pJ st y l=some (u,i)->k<=g->i<=f->g<(st.site s).length->f<(st.site y).length->o+(g - k)=u+(f - i)->s=y/\g=f
 | (x,H)::r,o,u,k,i,h,b,E,t,D,p,e=>by
  simp only[pJ]at h b;split at h
  .rename_i C;subst C;cases h;split at b
   .grind
   .obtain⟨⟨G,F⟩,z,n⟩:=cM b
    grind
  .obtain⟨⟨J,I⟩,z,n⟩:=cM h;simp only[dA]at n;obtain⟨rfl,rfl⟩:=n;split at b
   .grind
   .obtain⟨⟨G,F⟩,j,d⟩:=cM b;simp only[dA]at d;obtain⟨rfl,rfl⟩:=d;exact RE z j E t D p (by omega)
theorem E1{s d:Nat}{q:Nat × Nat}:∀ {b:List (Nat × List (Nat × Nat))},tZ st s b=some (d,q)->∃ l,(d,l)∈b/\pJ st s l=some q
 | (k,l)::r,h=>by
  simp[tZ]at h;split at h
  .grind
  .obtain⟨j,f,i⟩:=E1 h
   grind
theorem JY{s f:Nat}{q:Nat × Nat}{l:List (Nat × Nat)}:∀ {b:List (Nat × List (Nat × Nat))},(b.flatMap λq=>q.2.map (·.1)).Nodup->(f,l)∈b->pJ st s l=some q->tZ st s b=some (f,q)
 | (n,j)::r,d,hm,h=>by
  simp[tZ];rw[jG,FF]at d;obtain hm|hm:=bY.1 hm
  .grind
  .cases i:pJ st s j with
   | none=>exact JY d.2.1 hm h
   | some k=>exact absurd rfl (d.2.2 s (Ho i) s (kv.2 ⟨_,hm,Ho h⟩))
theorem EW{f:Nat}{l:List (Nat × Nat)}:∀ {b:List (Nat × List (Nat × Nat))},(b.map (·.1)).Nodup->(f,l)∈b->look (sI st σ b) f []=mE st σ l
 | (i,h)::r,d,hm=>by
  rw[jH,uH]at d;simp[sI];obtain hm|hm:=bY.1 hm
  .grind
  .rw[aY]
   .exact EW d.2 hm
   .grind
theorem Jg{d:Nat}:∀ {b:List (Nat × List (Nat × Nat))},d∉b.map (·.1)->look (sI st σ b) d []=if aL=d then[none]else[]
 | [],_=>rfl
 | (i,f)::r,h=>by simp only[jH,bY,not_or]at h;simp[sI];rw[aY (v8 h.1)];exact Jg h.2
theorem RD{s g:Nat}:(st.site s)[g]?.getD none=st.obj s g:=rfl
theorem WD{α β : Type}{l:List (α × β)}(hn:(l.map (·.1)).Nodup){x : α}{y d : β}(h:(x,y)∈l)(b:(x,d)∈l):y=d:=by
 induction l with
 | nil=>cases h
 | cons q r f =>
  rw[jH]at hn;obtain h|h:=bY.1 h<;>obtain b|b:=bY.1 b
  .grind
  .grind
  .grind
  .grind
theorem RO{keep:List Nat}{f:List (Nat × List (Nat × Nat))}(h:y9 st.hp f=true):rF st (st.lQ keep f) (nT st f)/\LW st (nT st f):=by
 simp only[y9,kq]at h;obtain⟨⟨h1,h2⟩,R⟩:=h;have n2:=HF h2;have H:=HF R;rw[uH]at H;have hD:=Jg (st:=st) (σ := nT st f) H.1
 have j:0<((st.lQ keep f).site aL).length/\(st.lQ keep f).obj aL 0=none :=
  ⟨by show 0<(look (sI st (nT st f) f) aL []).length;rw[hD];simp,by show((look (sI st (nT st f) f) aL [])[0]?).getD none=none;rw[hD];rfl⟩
 have M:LW st (nT st f):=λs g a b I=>by
  obtain R|⟨q,hq,rfl,R⟩:=AQ (d:=([]:List (Option bD))) (l:=st.hp) (s:=s)
  .simp_all
  .have:=kR.1 h1 q hq;simp only[B',decide_eq_true_eq,List.any_eq_true,kq,beq_iff_eq]at this;obtain(S|S)|⟨⟨p1,p2⟩,S,h5,U⟩:=this
   .omega
   .omega
   .simp only at h5;subst h5;have C:pJ st q.1 p2=some (0,0):=by
     cases p2 with
     | nil=>cases U
     | cons y r =>
      obtain⟨x,k⟩:=y;simp only[BN,kq,beq_iff_eq]at U;obtain⟨rfl,rfl⟩:=U;simp only[pJ,cB]
    unfold nT;rw[JY n2 S C];simp
 refine⟨⟨λs g o C=>?_,λs g I C=>?_,λs g u L o o' C G p t=>?_,λu L o' G=>?_,j⟩,M⟩
 .have I:=nO C;unfold nT;cases D:tZ st s f with
  | none=>exact .inl rfl
  | some q =>
   obtain⟨u,n,k⟩:=q;by_cases z:g<k
   .left;simp only[z,cB]
   obtain⟨l,J,Q⟩:=E1 D;right;simp only[z,fQ];show((look (sI st (nT st f) f) u [])[n+(g - k)]?).getD none=_;rw[EW H.2 J,z72 Q (by omega) I,RD,C];rfl
 .unfold nT;cases D:tZ st s f with
  | none=>exact j
  | some q =>
   obtain⟨u,n,k⟩:=q;by_cases z:g<k
   .simp only[z,cB];exact j
   simp only[z,fQ];obtain⟨l,J,Q⟩:=E1 D;have hc:=z72 (σ := nT st f) Q (show k<=g by omega) I;refine⟨?_,?_⟩
   .show n+(g - k)<(look (sI st (nT st f) f) u []).length;rw[EW H.2 J];exact(iR.1 hc).1
   .show((look (sI st (nT st f) f) u [])[n+(g - k)]?).getD none=none;rw[EW H.2 J,hc,RD,C];rfl
 .have I:=nO C;have V:=nO G;unfold nT at p t;cases D:tZ st s f with
  | none=>rw[D]at t;exact absurd rfl t
  | some q =>
   obtain⟨s1,n,k⟩:=q;rw[D]at p t;by_cases z:g<k
   .simp only[z,cB]at t;exact absurd rfl t
   simp only[z,fQ]at p t;obtain⟨l,J,Q⟩:=E1 D;cases E:tZ st u f with
   | none=>rw[E]at p;exact absurd p t
   | some q' =>
    obtain⟨s2,ad,k'⟩:=q';rw[E]at p;by_cases O:L<k'
    .simp only[O,cB]at p;exact absurd p t
    simp only[O,fQ]at p;obtain⟨l',X,Y⟩:=E1 E;simp only[dA]at p;obtain⟨rfl,e⟩:=p;obtain rfl:=WD H.2 J X;exact RE Q Y (by omega) (by omega) I V e
 .have i:((look (sI st (nT st f) f) u [])[L]?).getD none=some o':=G;by_cases hm:u∈f.map (·.1)
  .obtain⟨⟨s1,l⟩,F,rfl⟩:=cD.1 hm;rw[EW H.2 F]at i;cases W:(mE st (nT st f) l)[L]? with
   | none=>rw[W]at i;cases i
   | some y =>
    rw[W]at i;simp only[xp]at i;subst i;have nl:(l.map (·.1)).Nodup:=by
     have:List.Sublist (l.map (·.1)) (f.flatMap λq=>q.2.map (·.1)):=by obtain⟨a,b,e⟩:=Ml F;rw[e,Bk,jG];exact(List.sublist_append_left (l.map (·.1)) _).trans (List.sublist_append_right _ _)
     exact this.nodup n2
    obtain⟨s,g,o,n,k,k1,k2,k3,k4,k5⟩:=SK nl W;refine⟨s,g,o,k4,?_,k5⟩;unfold nT;rw[JY n2 F k1];simp only[show ¬ g<k by omega,fQ,k3]
  .rw[Jg hm]at i;exfalso;split at i
   .cases L<;>simp at i
   .simp at i
def aA.lQ(keep:List Nat)(lQ:List (Nat × List (Nat × Nat)))(h:y9 st.hp lQ=true):aA st (st.lQ keep lQ):=aA.sub (RO h).1 (RO (keep:=keep) h).2 rfl
end
end Go.Ab
namespace Go.Ab
section
variable {P:Program} {K:Ctx} {Z Z':Cz} {st st':St} {w w':World} {a:Act}
theorem aA.wP{s g n:Nat}{o:bD}{ps:List PV}(F:st.obj s g=some o)(hp:o.es.mapM (bE st n)=some ps)(hd:(s,g)∉o.es.flatMap (aO st n)):aA st ((aJ st (o.es.flatMap (aO st n))).setObj s g ⟨o.sz,ps.map .p⟩):=by
 intro K Z w a hs;generalize D:o.es.flatMap (aO st n)=ids at hd;have O:∀ b o,Z.M b=some o->Mx Z st w ids b=some o:=λb o d=>mH d;have hz:cO Z st { Z with M:=Mx Z st w ids } (aJ st ids):=(cO.aJ ids st).trans (cO.jY O);have W:bC K { Z with M:=Mx Z st w ids } (aJ st ids) w:=by
  refine(bC.aJ ids hs.heap).grow (Keep.refl w _) _ O (λb o d=>?_) (λb o d=>?_) (λs g o b F d=>?_)
  .obtain h|⟨_,h,_⟩:=rJ d
   .exact hs.heap.mem b o h
   .exact h
  .obtain h|⟨_,_,s,g,L,_,k,r⟩:=rJ d
   .exact .inl h
   .exact .inr (hs.heap.own s g L b k r)
  .obtain⟨E,I⟩:=Dy ids st F;cases hm:Mx Z st w ids b with
   | none=>rfl
   | some y =>
    exfalso;obtain h|⟨_,_,s',g',L,G,k,r⟩:=rJ hm
    .rw[hs.heap.sep s g o b E d]at h;cases h
    .obtain⟨rfl,rfl⟩:=hs.heap.inj s g s' g' o L b E k d r;exact I G
 have j:=Q1 ids F hd;have z:=hs.heap.bR s g o F;have f:=BM hp;have C:∀ l:List PV,(l.map AV.p).flatMap AV.cells=(l.flatMap PV.cells).map .p:=λl=>by
  induction l with
  | nil=>rfl
  | cons q l Y=>rw[jH,jG,Y,jG,qY];cases q<;>rfl
 have key:(∀ b,Z.B s g=some b->∃ (cur:Array Value) (T:TypeId) (vals:List Value),w.heap[b]?=some (.cells cur T (0,0))/\PReps (Mx Z st w ids) (ps.flatMap PV.cells) vals /\
   (∀ (i:Nat) (v:Value),vals[i]?=some v->cur[i]?=some v)/\cur.size=Z.cap s g*o.sz/\o.es.length<=Z.cap s g/\Z.cap s g<=maxLen)/\(∀ p∈ps,p.sz=o.sz)/\∀ c∈ps.flatMap PV.cells,c.one=true:=by
  cases d:Z.B s g with
  | none =>
   have V:=z.xt d;rw[V]at hp;have:=Dz hp;subst this;exact⟨λb d=>(by cases d),by simp,by simp⟩
  | some b =>
   obtain⟨cur,T,vals,k1,k2,k3,k4,k5,k6⟩:=z.bU b d;obtain⟨r1,r2,r3⟩:=E9 (w:=w) (n:=n) (ids:=ids) z.pos (AL hs.heap ids n) k2 hp z.jC z.one (λi hi=>by rw[<- D];exact hi);exact⟨λb' H=>(by cases H;exact⟨cur,T,vals,k1,r1,k3,k4,k5,k6⟩),r2,r3⟩
 obtain⟨q1,q2,q3⟩:=key;have J:=W.xZ j (es:=ps.map .p) (by rw[rL,f]) (λx X=>?_) (λc Q=>?_) (λb d=>?_)
 .refine⟨{ Z with M:=Mx Z st w ids },⟨λu=>?_,hs.defers,hs.size,J⟩,.dR (hz.trans (cO.setObj _ _ s g o ⟨o.sz,ps.map .p⟩ j rfl (by simp[f])))⟩;rw[show((aJ st ids).setObj s g ⟨o.sz,ps.map .p⟩).get u=st.get u from y7 (s:=(aJ st ids).setObj s g ⟨o.sz,ps.map .p⟩) (t:=st) (zY ids st) u];exact aM.mono (hz.trans (cO.setObj _ _ s g o ⟨o.sz,ps.map .p⟩ j rfl (by simp[f]))) (hs.aR u)
 .obtain⟨p,iJ,rfl⟩:=cD.1 X;exact q2 p iJ
 .rw[C]at Q;obtain⟨p,iJ,rfl⟩:=cD.1 Q;exact q3 p iJ
 .obtain⟨cur,T,vals,G,k,r,R,S,U⟩:=q1 b d;refine⟨cur,T,vals,G,?_,r,R,S,U⟩;rw[C];exact aG.lS k
def aA.yb{s g n:Nat}{o:bD}(ps:List PV)(ids:List (Nat × Nat))(b:st.obj s g=some o)(hp:o.es.mapM (bE st n)=some ps)(hi:o.es.flatMap (aO st n)=ids)(hd:(s,g)∉ids):aA st ((aJ st ids).setObj s g ⟨o.sz,ps.map .p⟩):=by subst hi;exact aA.wP b hp hd
theorem V7(n:Nat)(st:St)(s g off b:Nat):aO st (n+1) (.own s g off b)=(s,g)::(match st.obj s g with|some o=>o.es.flatMap (aO st n)|none=>[]):=rfl
end
mutual
def wW:AV->Bool
 | .p u=>u.cL
 | .cp u _ _=>u.cL
 | .agg b=>rI b
 | .fn _ b=>rI b
 | .bP b=>rI b
 | _=>true
def rI:List AV->Bool
 | []=>true
 | v::r=>wW v&&rI r
end
def AH(st:St):Bool:=st.sl.all (λq=>wW q.2)&&st.hp.all λq=>q.2.all λo=>match o with|some o=>rI o.es|none=>true
theorem Hv:∀ {l:List AV},rI l=true ↔ ∀ v∈l,wW v=true
 | []=>by simp[rI]
 | v::l=>by simp[rI,Hv (l:=l)]
def yc(q:mG)(m:j3):FA:=⟨0,λ_ _=>True,λ_ _ _ _ h=>h,false,true,λK Z st _=>q.p Z st/\K.M0 m.1=none/\(K.X0 m.1\/K.w0.heap.size<=m.1)/\∃ d b,Z.M m.1=some (.map d b)/\DM Z.M m.2.1 m.2.2 d b,by
 rintro K Z st w Z' st' w' f ⟨i,j,k,d,b,l,n,o,r⟩;exact⟨q.m _ _ _ _ f.Ag i,j,k,d,b,f.M _ _ l,n.mono f.M,o.mono f.M,r⟩⟩
def FQ:mG:=⟨λ_ _=>True,λ_ _ _ _ _ h=>h⟩
section
variable {P:Program} {K:Ctx} {Z Z':Cz} {st st' st1:St} {w w':World} {a:Act} {N:Nat} {A B:Option FA} {Post:Exit->St->Option FA->Prop} {b4:St->Option FA->Prop} {ac:AC} {q:mG} {m:j3}
theorem MR.holds(h:∀ K Z st w,nM A K Z st w->nM B K Z st w)(k:MR P N ac st B Post):MR P N ac st A Post :=
 λcode i K Z w a Q d hs b f=>k code i K Z w a Q d hs (h _ _ _ _ b) f
def T5{r:Nat}{ks b:List PV}:∀ K Z st w,nM (some (sL r ks b)) K Z st w->nM (some (gB FQ (some (r,ks,b)))) K Z st w :=
 λ_ _ _ _ h=>⟨trivial,h⟩
theorem MR.TX(k:MR P N ac st (some (yc q m)) Post):MR P N ac st (some (gB q (some m))) Post:=by
 intro code z K Z w a Q t hs r x;obtain⟨hq,l,y,es,clock,C,D,E,F⟩:=r
 let f:Nat->Option Obj:=λb=>if b=m.1 then w.heap[m.1]? else Z.M b
 have d:∀ b o,Z.M b=some o->f b=some o:=λb o j=>by
  simp[f];rw[aY];· exact j
  .rintro rfl;rw[l.m]at j;cases j
 have n:bC K { Z with M:=f } st w:=by
  refine hs.heap.grow (Keep.refl _ _) f d (λb o i=>?_) (λb o i=>?_) (λs g o b j i=>?_)
  .simp[f]at i;split at i
   .grind
   .exact hs.heap.mem b o i
  .grind
  .simp[f];rw[aY];· exact hs.heap.sep s g o b j i
   .rintro rfl;exact l.o s g o j i
 have hz:cO Z st { Z with M:=f } st:=.jY d;have p:K.M0 m.1=none:=by
  cases h:K.M0 m.1 with
  | none=>rfl
  | some o=>have:=hs.heap.m0 _ _ h;rw[l.m]at this;cases this
 exact k code z K { Z with M:=f } w a Q t ⟨λu=>aM.mono hz (hs.aR u),hs.defers,hs.size,n⟩ ⟨q.m _ _ _ _ (.dR hz) hq,p,y,es,clock,by simp[f];exact C,D.mono d,E.mono d,F⟩ x
mutual
theorem aM.cL{M':Nat->Option Obj}(i:∀ b cur T fr,Z.M b=some (.cells cur T fr)->M' b=some (.cells cur T fr)):∀ {u:AV} {x:Value},aM Z st u x->wW u=true->aM { Z with M:=M' } st u x
 | _,_,.p u x hp,h=>.p u x (PRep.cL i hp h)
 | _,_,.nil,_=>.nil
 | _,_,.dU s g o l k,_=>.dU s g o l k
 | _,_,.own s g off len o b ad c l k d j h3 n,_=>.own s g off len o b ad c l k d j h3 n
 | _,_,.eN s g off len ad c r hd,_=>.eN s g off len ad c r hd
 | _,_,.ptr s g ix off o b l k,_=>.ptr s g ix off o b l k
 | _,_,.kK s g ix off ad r hd,_=>.kK s g ix off ad r hd
 | _,_,.cp u vC off b o cur T fr vals t d j h3 n y,h=>.cp u vC off b o cur T fr vals (i _ _ _ _ t) d j h3 (PReps.cL i n (Lr h)) y
 | _,_,.agg cs vals d j,h=>.agg cs vals d (aG.cL i j h)
 | _,_,.fn f gW vals d,h=>.fn f gW vals (aG.cL i d h)
 | _,_,.bP vs vals d,h=>.bP vs vals (aG.cL i d h)
 | _,_,.skip,_=>.skip
 | _,_,.undef x,_=>.undef x
theorem aG.cL{M':Nat->Option Obj}(d:∀ b cur T fr,Z.M b=some (.cells cur T fr)->M' b=some (.cells cur T fr)):∀ {u:List AV} {x:List Value},aG Z st u x->rI u=true->aG { Z with M:=M' } st u x
 | _,_,.nil,_=>.nil
 | _,_,.cons u x us xs f i,h=>by simp only[rI,kq]at h;exact .cons _ _ _ _ (aM.cL d f h.1) (aG.cL d i h.2)
end
theorem T8{u:AV}(h:wW u=true):rI u.cells=true:=by
 cases u with
 | p p =>
  cases p with
  | agg b =>
   simp[wW,yB]at h;simp only[AV.cells,Hv,cD];rintro _ ⟨c,d,rfl⟩;exact h c d
  | _=>simp[rI,h]
 | agg b=>exact h
 | _=>simp[rI,h]
theorem MR.Cj(hn:AH st=true)(L:jQ m.2.1=true)(O:jQ m.2.2=true)(k:MR P N ac st (some (gB q (some m))) Post):MR P N ac st (some (yc q m)) Post:=by
 intro code z K Z w a Q S hs R U;obtain⟨hq,J,V,es,clock,I,q1,q2,q3⟩:=R
 let n:Nat->Option Obj:=λb=>if b=m.1 then none else Z.M b
 have r:∀ b o,n b=some o->b≠m.1/\Z.M b=some o:=λb o h=>by
  simp only[n]at h;split at h
  .grind
  .grind
 have f:∀ b cur T fr,Z.M b=some (.cells cur T fr)->n b=some (.cells cur T fr):=λb cur T fr h=>by
  simp only[n];rw[aY];· exact h
  .grind
 simp only[AH,kq,kR]at hn;have C:∀ t,wW (st.get t)=true:=λt=>by
  obtain h|⟨p,h,_,h3⟩:=AQ (d:=AV.undef) (l:=st.sl) (s:=t)
  .simp only[St.get,h,wW]
  .simp only[St.get,h3];exact hn.1 p h
 have G:∀ s g o,st.obj s g=some o->rI o.es=true:=λs g o i=>by
  obtain h|⟨p,h,_,h3⟩:=AQ (d:=([]:List (Option bD))) (l:=st.hp) (s:=s)
  .simp_all
  .have:=hn.2 p h;simp only[St.obj,St.site,h3]at i;cases F:p.2[g]? with
   | none=>rw[F]at i;cases i
   | some x=>rw[F]at i;simp only[xp]at i;subst i;exact this _ (wg F)
 have D:bC K { Z with M:=n } st w:=by
  have h:=hs.heap;refine⟨λs g o i=>?_,h.inj,λb o j=>h.mem b o (r b o j).2,λs g o b i j=>?_,h.own,λb o j=>?_,λb o j=>h.eE b o (r b o j).2,h.keep⟩
  .have y:=h.bR s g o i;refine⟨y.pos,y.jC,y.one,y.xt,λb j=>?_⟩;obtain⟨cur,T,vals,X,Y,k3⟩:=y.bU b j;refine⟨cur,T,vals,X,aG.cL f Y ?_,k3⟩;have:=G s g o i;rw[Hv]at this ⊢;intro c z;obtain⟨e,W,z⟩:=kv.1 z;exact Hv.1 (T8 (this e W)) c z
  .have:=h.sep s g o b i j;show(if b=m.1 then none else Z.M b)=none;rw[this];split<;>rfl
  .show(if b=m.1 then none else Z.M b)=some o;rw[aY];· exact h.m0 b o j
   .rintro rfl;rw[J]at j;cases j
 have H:cV Z st { Z with M:=n } st:=⟨λ_ _ _=>dK _,λ_ _ _ _ _ h=>h,λs g o _ _ i=>.inr ⟨o,i,rfl,rfl,rfl,rfl⟩⟩;have j:=hs.heap.mem _ _ I;refine k code z K { Z with M:=n } w a Q S ⟨λu=>aM.cL f (hs.aR u) (C u),hs.defers,hs.size,D⟩ ⟨q.m _ _ _ _ H hq,⟨by simp[n],λs g o i E=>?_,(sG.1 j).1⟩,V,es,clock,j,q1.cL f L,q2.cL f O,q3⟩ U;have:=hs.heap.sep s g o _ i E;rw[I]at this;cases this
def FU{s g sz:Nat}{v v':AV}(j:st.obj s g=some ⟨sz,[v]⟩)(k:v'.sz=v.sz)(p:v.cells.all AV.one=true->v'.cells.all AV.one=true)(hs:aN K Z st w a)(z:∀ x,aG Z st v.cells x->aG Z st v'.cells x) :
  aN K Z (st.setObj s g ⟨sz,[v']⟩) w a/\cO Z st Z (st.setObj s g ⟨sz,[v']⟩):=by
 have n:=cO.setObj Z st s g ⟨sz,[v]⟩ ⟨sz,[v']⟩ j rfl rfl;have h:=hs.heap.bR s g _ j;refine⟨⟨λu=>?_,hs.defers,hs.size,hs.heap.xZ j (es:=[v']) rfl (λx l=>?_) (λc i=>?_) (λb y=>?_)⟩,n⟩
 .rw[show(st.setObj s g ⟨sz,[v']⟩).get u=st.get u from y7 (s:=st.setObj s g ⟨sz,[v']⟩) (t:=st) rfl u];exact aM.mono n (hs.aR u)
 .rw[jF]at l;subst l;rw[k];exact h.jC v (by simp)
 .have r:=p (List.all_eq_true.2 λc i=>h.one c (by simpa using i));exact List.all_eq_true.1 r c (by simpa using i)
 .obtain⟨f,T,d,C,o,D,E,F,G⟩:=h.bU b y;refine⟨f,T,d,C,?_,D,E,F,G⟩;simp only[jG,List.flatMap_nil,kZ]at o ⊢;exact z _ o
theorem aG.FT{cs:List AV}{i:Nat}{u v:AV}(hi:cs[i]?=some u)(h:∀ x,aM Z st u x->aM Z st v x):∀ {xs:List Value},aG Z st cs xs->aG Z st (cs.set i v) xs:=by
 induction cs generalizing i with
 | nil=>simp at hi
 | cons c cs j =>
  intro xs f;cases f with
  | cons _ x _ xs b d =>
   cases i with
   | zero=>simp at hi;subst hi;exact .cons _ _ _ _ (h _ b) d
   | succ i=>exact .cons _ _ _ _ b (j (by simpa using hi) d)
def Q9{f:AV->Bool}{cs:List AV}{i:Nat}{v:AV}(h:cs.all f=true)(b:f v=true):(cs.set i v).all f=true:=by grind
theorem MR.TW{s g sz i:Nat}{cs:List AV}(D:st.obj s g=some ⟨sz,[.agg cs]⟩)(hi:cs[i]?=some (.p (.fH m.1)))(k:MR P N ac (st.setObj s g ⟨sz,[.agg (cs.set i (.p (.mp m.1 m.2.1 m.2.2)))]⟩) (some (yc q m)) Post):MR P N ac st (some (yc q m)) Post:=by
 intro code C K Z w a Q u hs t y;obtain⟨hq,n,z,es,clock,f,j,l,d⟩:=t;obtain⟨o,r⟩:=FU (v':=.agg (cs.set i (.p (.mp m.1 m.2.1 m.2.2)))) D (by simp[AV.sz]) (λh=>Q9 h rfl) hs λxs b=>aG.FT hi (λx b=>by
  have b:=b.cA;cases b;exact .p _ _ (.mp m.1 m.2.1 m.2.2 es clock f j l d.1 d.2.1 d.2.2)) b
 exact k code C K Z w a Q u o ⟨q.m _ _ _ _ (.dR r) hq,n,z,es,clock,f,j,l,d⟩ y
theorem aA.z7{s g sz i r:Nat}{ks us:List PV}{cs:List AV}(j:st.obj s g=some ⟨sz,[.agg cs]⟩)(hi:cs[i]?=some (.p (.mp r ks us))):aA st (st.setObj s g ⟨sz,[.agg (cs.set i (.p (.fH r)))]⟩):=by
 intro K Z w a hs;obtain⟨d,f⟩:=FU (v':=.agg (cs.set i (.p (.fH r)))) j (by simp) (λh=>Q9 h rfl) hs λxs b=>aG.FT hi (λx b=>by
  have b:=b.cA;cases b;exact .p _ _ (.fH r)) b
 exact⟨Z,d,.dR f⟩
theorem Q0{d:Option Nat}{t kt W:TypeId}{L:List IntKind}{x y z r:Nat}{ks M kc:List PV}{v:PV}(ht:P.underlying t=some (.map kt W))(hk:Er P kt=some L)
  (hx:st.get x=.p (.fH r)) (hy:st.get y=.p (.agg kc)) (hz:st.get z=.p v) (H:ks.all (su L)=true) (F:j' L kc=true)
  (k:b4 (st.put d .undef) (some (gB q (some (r,mL kc v ks M))))):pW P N ⟨d,.raw (.mapUpdate t (.tmp x) (.tmp y) (.tmp z)),none⟩ st (some (gB q (some (r,ks,M)))) b4:=by
 refine .raw λK Z w a hN n hA o ho=>?_;obtain⟨hq,l,S,es,s,q0,q1⟩:=hA;have u:=n.aR x;have C:=n.aR y;have D:=n.aR z
 rw[hx]at u;rw[hy]at C;rw[hz]at D;have O:a.eval (.tmp x)=a.tmps.getD x Go.undef:=rfl;have Q:a.eval (.tmp y)=a.tmps.getD y Go.undef:=rfl;have R:a.eval (.tmp z)=a.tmps.getD z Go.undef:=rfl;generalize a.tmps.getD x Go.undef=X at u O;generalize a.tmps.getD y Go.undef=Y at C Q;generalize a.tmps.getD z Go.undef=V at D R;have E:=D.cA;cases u.cA;cases C.cA with
 | agg _ U i hv =>
  obtain⟨J,G⟩:=Pt hk;obtain⟨h,f,j,I⟩:=QW ht J (λa b=>G a b) q0 q1 H F hv i E;have hH:bC K Z st (ChangeMaps.setBlock w r (.map h f)):=n.heap.world (J9 w r _) λb hb=>by subst hb;exact⟨l.m,l.o,S⟩
  refine⟨.skip,Go.undef,_,.undef,some (gB q (some (r,mL kc v ks M))),Z,by simp[execOp,ho,O,Q,R,j],.inr ⟨rfl,rfl⟩,.undef _,hH,cO.refl Z st,⟨hq,⟨l.m,l.o,?_⟩,S,h,f,?_,I⟩,k⟩
  .show r<(w.heap.setIfInBounds r _).size
   grind
  .show(w.heap.setIfInBounds r _)[r]?=_
   grind
end
end Go.Ab
