/- Lemmas for the law ProjectAppliesMadeModels, part 14. No conditions. -/
import Derived.Test.YthhdboljpgdcpaaGreatDoorDP13
set_option maxRecDepth 100000
set_option maxHeartbeats 4000000
set_option linter.all false
noncomputable section
namespace Go.Ab
open Enc (enc)
structure mL where
 p:Cz->St->Prop
 m:∀ Z st Z' st',cY Z st Z' st'->p Z st->p Z' st'
def IS{st:St}{s g:Nat}{o:bI}(h:st.site s=[])(b:st.obj s g=some o):False:=by simp_all
theorem qB.later{o:Option zaV}{K:Ctx}{Z Z':Cz}{st st':St}{w w':World}(hl:mN Z st w Z' st' w')(h:qB o K Z st w):qB o K Z' st' w':=by
 cases o with
 | none=>trivial
 | some m =>
  obtain⟨b,d,es,clock,h3,i,j,k⟩:=h;obtain⟨l,n⟩:=hl.f _ b;exact⟨l,d,es,clock,by rw[n];exact h3,i.mono hl.M,j.mono hl.M,k⟩
def gH(q:mL)(o:Option zaV):FA:=⟨0,λ_ _=>True,λ_ _ _ _ h=>h,false,true,λK Z st w=>q.p Z st/\qB o K Z st w,λ_ _ _ _ _ _ _ b h=>⟨q.m _ _ _ _ b.Bl h.1,qB.later b h.2⟩⟩
structure DO (o o':Option zaV) (A A':Option FA):Prop where
 get:∀ K Z st w,nN A K Z st w->qB o K Z st w
 put:∀ K Z st w Z' st' w',nN A K Z st w->zF (Au o) Z st w Z' st' w'->qB o' K Z' st' w'->nN A' K Z' st' w'
def DO.gH(q:mL)(o o':Option zaV):DO o o' (some (gH q o)) (some (gH q o')) :=
 ⟨λ_ _ _ _ h=>h.2,λ_ _ _ _ _ _ _ h hl b=>⟨q.m _ _ _ _ (.dW hl.z) h.1,b⟩⟩
def D6(b:HV)(st:St)(d:Option Nat):St:=(sO b st (d.getD 0)).2.put d (sO b st (d.getD 0)).1
section
variable {P:Program} {K:Ctx} {Z Z' Z2:Cz} {st st' st1 st2:St} {w w':World} {a:Act} {N:Nat} {A B:Option FA} {Post:Exit->St->Option FA->Prop} {cC:St->Option FA->Prop} {ks:List Nat} {v:AV}
theorem IP{d:Option Nat}{f:FuncId}{xs:List bP}{vs:List AV}{hp l:List Site}{U p:Option zaV}{u:HV}(C:kU P f vs hp U u l p)(D:DO U p A B)(z:p.map (·.1)=U.map (·.1))(ag:xs.map st.ev=vs)(hk:qA st hp hp)(ad:l.map (·.1)=hp.map (·.1))
  (I:(lC (hp.map (·.1)) vs&&dS (hp.map (·.1)) hp&&vU (hp.map (·.1)) u&&dS (hp.map (·.1)) l)=true) (k:cC (D6 u ⟨st.sl,l++st.hp⟩ d) B):ql P N ⟨d,.call f xs,none⟩ st A cC:=by
 intro al j o K Z w a Q Kt hN hj V n hA hK;obtain⟨h1,h2,h3,h4⟩:=EE V;obtain⟨R,h,af,hf,hh,G⟩:=MI h1;have hg:o.guard=none:=by
  cases hg:o.guard with
  | none=>rfl
  | some jb =>
   rw[hg]at h2;simp only[A3]at h2
   grind
 have hw:Region.wanted o (yielded al a.tmps)=true:=by simp[Region.wanted,hg]
 have hd:d=o.dst:=h3;obtain⟨W,C⟩:=C;have J:=CJ G n;rw[ag]at J;have X:=fH hh n;have Y:a.eval h=.func (.func f) #[] #[]:=by
  have hp:=X.cF;generalize a.eval h=F at hp ⊢;cases hp with
  | fn _ _ ap h=>cases h;rfl
 have O:(execOp a.eval o).run P w=.ok (.enter f ((R.args.toList.map a.eval).toArray)) w:=by
  have:=Gq (P:=P) (w:=w) (args:=(R.args.toList.map a.eval).toArray) W;simp only[execOp,af,resolve,hf,Y,Deferred.ofValue,mW,oJ,qF,invoke];have e : #[]++R.args.map a.eval ++ #[]=(R.args.toList.map a.eval).toArray:=by simp[<- Array.toList_map]
  rw[e];exact this
 simp only[jO]at I;obtain⟨⟨⟨r1,r2⟩,r3⟩,r4⟩:=I;have i:∀ s,(hp.map (·.1)).contains s=true->st.site s=look hp s []:=λs n=>by obtain⟨q,hq,rfl⟩:=cA.1 (E3.1 n);exact IG hk q hq
 refine(show o.wp P a w Kt Q from ?_) |> λh=>by unfold wpOp;simp only[hj,hw,cH];exact .inl h
 unfold Oper.wp;rw[O,E2];have y:=D.get _ _ _ _ hA;obtain⟨u1,u2⟩:=Po i r2 n.heap y;refine(C Z w _ u1 u2 (aG.gU (st:=st) (st2:=⟨[],hp⟩) (Z2:=Z) (λs h=>(i s h).symm) (λ_ _ h=>h) (λ_ _ _=>⟨rfl,rfl⟩) J r1)).mono ?_;rintro e w' ⟨x,Z',rfl,p1,p2,p3,p4⟩;obtain⟨Z2,q1,q2,q3,q4,q5⟩:=Qo z ad i r4 (by cases u with|av v=>exact r3|fr _ _=>rfl|bx _ _ _=>exact(Bool.and_eq_true_iff.1 r3).2) n.heap y p1 p2 p3 p4;obtain⟨Z3,v,ao,e1,t1,t2,t3,t4,t5,t6⟩:=su.take (dd:=d.getD 0) q1 q2 r3 n.heap.keep.size q5 (λb S=>by
  cases p with
  | none=>exact S.elim
  | some m' =>
   cases U with
   | none=>cases z
   | some m0 =>
    have e:m'.1=m0.1:=by simpa using z
    have S:b=m'.1:=S;rw[S,e];exact y.1.lt)
 simp only[D6,e1]at k;refine hK _ _ Z3 _ _ k ?_ ((D.put _ _ _ _ Z3 ao w' hA ⟨λb o h=>t4.M b o (q3.M b o h),λr hR I=>?_,q3.trans t4⟩ t6).site λs=>pT _ _ _ s)
 .rw[hd];exact n.put (by rw[t3]) (q3.trans t4) t1 t2 (by subst hN;exact h4) n.defers
 .obtain⟨y1,y2⟩:=q4.f r hR I;exact⟨t5 r I.lt y1,y2⟩
def tQ:Nat->List AV->List (Nat × AV)
 | _,[]=>[]
 | i,v::r=>(i,v)::tQ (i+1) r
theorem QW:∀ (args:List AV) (i t:Nat),look (tQ i args) t AV.undef=if t<i then .undef else(args[t - i]?).getD .undef
 | [],i,t=>by simp[tQ]
 | v::r,i,t=>by
  simp[tQ];split
  .grind
  .rename_i h;rw[QW r (i+1) t];by_cases b:t<i
   .grind
   .grind
def NY(rs:List (Nat × Option Nat))(v:AV)(b:List Site)(f:Exit)(s:St):Prop :=
 (f=.ret\/f=.normal)/\∃ d,aA s d/\∃ h,oF d rs=some h/\dD h=v/\qA d b b
def NZ(hp b:List Site)(h:St):HV->AV->Prop
 | .av v,u=>u=v
 | .fr f d,u=>b=hp/\((u=.nil/\d=[])\/∃ s g,(hp.map (·.1)).contains s=false/\u=.own s g 0 d.length/\h.obj s g=some ⟨f,d.map .p⟩)
 | .bx f e i,u=>b=hp/\∃ s g,(hp.map (·.1)).contains s=false/\u=.bM (.ptr s g 0 0::i.map .p)/\h.obj s g=some ⟨f,[e]⟩
def Du(rs:List (Nat × Option Nat))(hp:List Site)(f:HV)(b:List Site)(h:Exit)(s:St):Prop :=
 (h=.ret\/h=.normal)/\∃ d,aA s d/\∃ i,oF d rs=some i/\NZ hp b d f (dD i)/\qA d b b
theorem kU.fZ{f:FuncId}{vs:List AV}{hp iO:List Site}{z G:Option zaV}{res:HV}{n np:Nat}{b:GC}{rs:List (Nat × Option Nat)}(j:aP P f=some ⟨n,np,b.er,rs⟩)(hn:vs.length<=n)(bo:G.map (·.1)=z.map (·.1))
  (br:hp.all (λq=>decide (fU<=q.1)&&decide (q.1<999999))=true) (au:iO.map (·.1)=hp.map (·.1)) (hr:(vU (hp.map (·.1)) res&&dS (hp.map (·.1)) iO)=true)
  (h:∀ q:mL,MR P n b.er ⟨tQ 0 vs,hp⟩ (some (gH q z)) λex s B=>B=some (gH q G)/\Du rs hp res iO ex s):kU P f vs hp z res iO G:=by
 unfold aP at j;split at j
 .rename_i fn hf;split at j
  .rename_i al;split at j
   .rename_i c y;split at j
    .rename_i bd cs h1 h2;obtain⟨rfl,_,rfl,rfl⟩:=j;refine⟨⟨fn,hf,by rw[y];rfl,al⟩,λZ w vals hH W hv=>?_⟩;refine calls_of_wp hf y ?_;have hl:=hv.length;have bt:∀ s,(⟨tQ 0 vs,hp⟩:St).site s=(⟨[],hp⟩:St).site s:=λ_=>rfl;have h0:aN ⟨w,Z.M,λb=>lH Z ⟨[],hp⟩ b\/Au z b,fn.ntmps⟩ Z ⟨tQ 0 vs,hp⟩ w { tmps:=vals.toArray++Array.replicate (fn.ntmps - vals.toArray.size) Go.undef,defers:=[] }:=by
      refine⟨λt=>?_,rfl,by simp;omega,bG.jl ⟨hH.bT,hH.inj,hH.mem,hH.sep,hH.own,hH.m0,hH.eM,hH.keep⟩ bt⟩;have aq:(⟨tQ 0 vs,hp⟩:St).get t=(vs[t]?).getD .undef:=by have:=QW vs 0 t;simpa[St.get]using this
      rw[aq];cases hx:vs[t]? with
      | none=>exact .undef _
      | some u =>
       obtain⟨x,g1,U⟩:=hv.get t u hx;have cc:=(List.getElem?_eq_some_iff.1 g1).1;have:(vals.toArray++Array.replicate (fn.ntmps - vals.toArray.size) Go.undef).getD t Go.undef=x:=by simp[Array.getElem?_append,cc];have:=(List.getElem?_eq_some_iff.1 g1).2;simpa using this
       rw[this];exact aQ.mono (sC bt Z) U
     let q:mL:=⟨λZ' st'=>cY Z ⟨tQ 0 vs,hp⟩ Z' st',λ_ _ _ _ h k=>k.trans h⟩
     have bb:qB z ⟨w,Z.M,λb=>lH Z ⟨[],hp⟩ b\/Au z b,fn.ntmps⟩ Z ⟨tQ 0 vs,hp⟩ w:=by
      cases z with
      | none=>trivial
      | some m=>exact⟨⟨W.1.m,λs g o a1=>W.1.o s g o a1,W.1.lt⟩,W.2⟩
     refine h q _ h1 _ _ w _ _ rfl h0 ⟨cY.refl _ _,bb⟩ (λex st' A' Z' w' a' ce cf ao=>?_);obtain⟨rfl,ca,s1,hw,us,cm,F,af⟩:=ce;obtain⟨Q,l,aw⟩:=hw.frame cf;have Y:cY Z ⟨tQ 0 vs,hp⟩ Q s1:=cY.trans ao.1 aw.Bl;have C:=qB.later aw ao.2;simp only[jO]at hr;have d:∀ s,(hp.map (·.1)).contains s=true->s1.site s=(⟨[],iO⟩:St).site s:=λs hs=>by rw[<- au]at hs;obtain⟨q,hq,rfl⟩:=cA.1 (E3.1 hs);exact IG af q hq
     have D:∀ s,(hp.map (·.1)).contains s=true->fU<=s/\s<999999:=λs hs=>by obtain⟨q,hq,rfl⟩:=cA.1 (E3.1 hs);have:=k8.1 br q hq;rw[jO,decide_eq_true_eq,decide_eq_true_eq]at this;exact this
     have e0:∀ s,(hp.map (·.1)).contains s=false->(⟨[],hp⟩:St).site s=[]:=λs h=>Gk h;have e1:∀ s,(hp.map (·.1)).contains s=false->(⟨[],iO⟩:St).site s=[]:=λs h=>Gk (by rw[au];exact h);have hz:cP Z ⟨[],hp⟩ Q ⟨[],iO⟩:=by
      refine⟨λb o y=>l.heap.m0 b o y,λs=>?_,λs g hg hd=>?_,λs g o S=>?_⟩<;>cases j:(hp.map (·.1)).contains s
      .rw[e0 s j];exact vI _
      .rw[<- d s j];exact Y.len s (D s j).1 (D s j).2
      .rw[e0 s j]at hg;exact absurd hg (Nat.not_lt_zero _)
      .rw[fB (d s j).symm];exact Y.dead s g (D s j).1 (D s j).2 hg hd
      .exact(IS (e0 s j) S).elim
      .rw[fB (d s j).symm];exact Y.live s g o (D s j).1 (D s j).2 S
     have ap:bG (oA Z hp z w) Q ⟨[],iO⟩ w'/\qB G (oA Z hp z w) Q ⟨[],iO⟩ w':=by
      have k0:∀ {s g o},(⟨[],iO⟩:St).obj s g=some o->(hp.map (·.1)).contains s=true:=λ{s g o} S=>by
       cases h:(hp.map (·.1)).contains s with
       | true=>rfl
       | false=>exact(IS (e1 s h) S).elim
      have z:∀ {s g o},(⟨[],iO⟩:St).obj s g=some o->s1.obj s g=some o:=λ{s g o} S=>by rw[fB (d s (k0 S))];exact S
      have hq:=l.heap
      refine⟨⟨λs g o S=>oC.gU (st:=s1) (st2:=⟨[],iO⟩) (Z2:=Q) (λs h=>(d s h).symm) (λ_ _ h=>h) (λ_ _ _=>⟨rfl,rfl⟩) (k0 S) (FW hr.2 S) (hq.bT s g o (z S)),λs g s' g' o o' b a1 a2=>hq.inj s g s' g' o o' b (z a1) (z a2),hq.mem,λs g o b a1=>hq.sep s g o b (z a1),
       λs g o b a1 b1=>hq.own s g o b (z a1) b1,hq.m0,hq.eM,hq.keep⟩,?_⟩
      cases G with
      | none=>trivial
      | some m=>exact⟨⟨C.1.m,λs g o a1=>C.1.o s g o (z a1),C.1.lt⟩,C.2⟩
     have ag:a'.defers=[]/\∃ u,(results fn a'.tmps).run P w'=.ok u w'/\∃ x Z',Ending.returned u=.returned x/\bG (oA Z hp z w) Z' ⟨[],iO⟩ w'/\su res Z' ⟨[],iO⟩ w w' x/\cP Z ⟨[],hp⟩ Z' ⟨[],iO⟩/\qB G (oA Z hp z w) Z' ⟨[],iO⟩ w':=by
      obtain⟨xs,g1,U⟩:=D7 l h2 cm;have I:=U.dD;have key:iO=hp->∀ {s g:Nat} {o:bI} {b:Nat},(iO.map (·.1)).contains s=false->s1.obj s g=some o->Q.B s g=some b->(∀ V U o2,(⟨[],iO⟩:St).obj V U=some o2->Q.B V U≠some b)/\w.heap.size<=b:=by
       rintro rfl s g o b J i y;have X:∀ V U o2,(⟨[],iO⟩:St).obj V U=some o2->Q.B V U≠some b:=λV U o2 a1 b1=>by
        have hk:(iO.map (·.1)).contains V=true:=by
         cases h:(iO.map (·.1)).contains V with
         | true=>rfl
         | false=>exact(IS (e0 V h) a1).elim
        obtain⟨rfl,rfl⟩:=l.heap.inj _ _ _ _ _ _ b i (by rw[fB (d V hk)];exact a1) y b1;rw[hk]at J;cases J
       refine⟨X,?_⟩;obtain(hX|hX)|hX:=l.heap.own s g _ b i y
       .exfalso;obtain⟨s3,I,o3,c1,c2⟩:=hX;have hk:(iO.map (·.1)).contains s3=true:=by
         cases h:(iO.map (·.1)).contains s3 with
         | true=>rfl
         | false=>exact(IS (e0 s3 h) c1).elim
        have c3:s1.obj s3 I=some o3:=by rw[fB (d s3 hk)];exact c1
        obtain d1|⟨o4,d1,d2,d3,d4,d5⟩:=Y.live s3 I o3 (D s3 hk).1 (D s3 hk).2 c1
        .rw[c3]at d1;cases d1
        .exact X s3 I o3 c1 (by rw[d4];exact c2)
       .exfalso;cases z with
        | none=>exact hX.elim
        | some m =>
         cases G with
         | none=>cases bo
         | some m' =>
          have e:m'.1=m.1:=by simpa using bo
          have hX:b=m.1:=hX;rw[hX,<- e]at y;exact C.1.o _ _ _ i y
       .exact hX
      have g4:su res Q ⟨[],iO⟩ w w' (if h:xs.toArray.size=1 then xs.toArray[0]else .tuple xs.toArray):=by
       generalize (if h:xs.toArray.size=1 then xs.toArray[0]else .tuple xs.toArray)=x at I;cases res with
       | av v =>
        have F:dD us=v:=F;rw[F]at I;exact aQ.gU (st:=s1) (st2:=⟨[],iO⟩) (Z2:=Q) (λs h=>(d s h).symm) (λ_ _ h=>h) (λ_ _ _=>⟨rfl,rfl⟩) I hr.1
       | bx sz e ct =>
        obtain⟨R,s,g,J,e1,i⟩:=F;rw[e1]at I;have hO:=l.heap.bT s g _ i;cases I with
        | bM _ vals cn =>
         cases cn with
         | cons _ x0 _ ys co cp =>
          cases co with
          | kP _ _ _ _ _ _ hd=>exact(uH i hd).elim
          | ptr _ _ _ _ o' b O y =>
           rw[i]at O;cases O;obtain⟨cur,T,vals,l1,l2,l3,l4,l5,l6⟩:=hO.bX b y;obtain⟨k1,k2⟩:=key R (by rw[R];exact J) i y;simp only[List.flatMap_cons,List.flatMap_nil,List.append_nil]at l2;refine⟨b,_,cur,T,vals,ys,by simp,cp.pq,k2,l.heap.sep s g _ b i y,l1,?_,l3,l4,⟨by simpa using l5,l6⟩,λq hq=>?_,k1⟩
           .simp only[vU,jO]at hr;exact aG.gU (st:=s1) (st2:=⟨[],iO⟩) (Z2:=Q) (λs h=>(d s h).symm) (λ_ _ h=>h) (λ_ _ _=>⟨rfl,rfl⟩) l2 (MT hr.1.2)
           .exact hO.one q (by simpa using hq)
       | fr sz es =>
        obtain⟨R,F⟩:=F;obtain⟨e1,rfl⟩|⟨s,g,J,e1,i⟩:=F
        .rw[e1]at I;cases I;exact⟨.inl ⟨rfl,rfl⟩,λb n c h=>by cases h⟩
        .rw[e1]at I;have hO:=l.heap.bT s g _ i;generalize hL:es.length=L at I;cases I with
         | d' _ _ o' O y =>
          have h0:=hO.x5 y;have bu:es=[]:=by simpa using h0
          subst bu;exact⟨.inl ⟨rfl,rfl⟩,λb n c h=>by cases h⟩
         | eO _ _ _ _ _ _ _ hd=>exact(uH i hd).elim
         | own _ _ _ _ o' b ad c O y k1 k2 k3 k4 =>
          rw[i]at O;cases O;subst hL;obtain⟨rfl,rfl⟩:=k1 rfl;obtain⟨cur,T,vals,l1,l2,l3,l4,l5,l6⟩:=hO.bX b y;obtain⟨X,bk⟩:=key R (by rw[R];exact J) i y;refine⟨.inr ⟨b,_,cur,T,vals,rfl,bk,l.heap.sep s g _ b i y,l1,?_,l3,l4,by simpa using l5,l6,λq hq=>?_⟩,λb' n c hx=>by cases hx;exact X⟩
          .rw[qU]at l2;exact l2.pq
          .have:=hO.one (.p q) (by rw[qU];exact cA.2 ⟨q,hq,rfl⟩);exact this
      refine⟨l.defers,_,?_,_,Q,rfl,ap.1,g4,hz,ap.2⟩;unfold results;rw[EY];simp only[mW,map_eq_pure_bind,oJ];exact congrArg (λr=>(Result.andThen r λa w'=>Result.ok a.toArray w').andThen λ(a:Array Value) w'=>Result.ok (if h:a.size=1 then a[0]else Value.tuple a) w') g1
     obtain rfl|rfl:=ca
     .exact ag
     .exact ag
    .cases j
   .cases j
  .cases j
 .cases j
def UX.fZ{f:FuncId}{vs:List AV}{hp iO:List Site}{n np:Nat}{b:GC}{rs:List (Nat × Option Nat)}(j:aP P f=some ⟨n,np,b.er,rs⟩)(hn:vs.length<=n)
  (d:hp.all (λq=>decide (fU<=q.1)&&decide (q.1<999999))=true) (i:iO.map (·.1)=hp.map (·.1)) (k:(pR (hp.map (·.1)) v&&dS (hp.map (·.1)) iO)=true)
  (h:∀ A:FA,A.nb=true->MR P n b.er ⟨tQ 0 vs,hp⟩ (some A) λex s B=>B=some A/\NY rs v iO ex s):UX P f vs hp v iO :=
 kU.fZ j hn rfl d i k λq=>h (gH q none) rfl
end
abbrev Sg:=Nat->Nat->Nat × Nat
mutual
def sub(σ : Sg):AV->AV
 | .own s g b h=>.own (σ s g).1 (σ s g).2 b h
 | .ptr s g j b=>.ptr (σ s g).1 (σ s g).2 j b
 | .agg d=>.agg (gC σ d)
 | .fn f d=>.fn f (gC σ d)
 | .bM d=>.bM (gC σ d)
 | .p v=>.p v
 | .nil=>.nil
 | .cp v i b=>.cp v i b
 | .skip=>.skip
 | .undef=>.undef
def gC(σ : Sg):List AV->List AV
 | []=>[]
 | v::r=>sub σ v::gC σ r
end
def iM(σ : Sg)(o:bI):bI:=⟨o.sz,gC σ o.es⟩
structure rJ (st st':St) (σ : Sg):Prop where
 live:∀ s g o,st.obj s g=some o -> σ s g=(aO,0)\/st'.obj (σ s g).1 (σ s g).2=some (iM σ o)
 rH:∀ s g,g<(st.site s).length->st.obj s g=none->(σ s g).2<(st'.site (σ s g).1).length/\st'.obj (σ s g).1 (σ s g).2=none
 inj:∀ s g s' g' o o',st.obj s g=some o->st.obj s' g'=some o' -> σ s g = σ s' g' -> σ s g≠(aO,0)->s=s'/\g=g'
 all:∀ s' g' o',st'.obj s' g'=some o'->∃ s g o,st.obj s g=some o /\ σ s g=(s',g')/\o'=iM σ o
 dead:0<(st'.site aO).length/\st'.obj aO 0=none
section
variable {P:Program} {K:Ctx} {Z Z':Cz} {st st':St} {w:World} {a:Act} {σ : Sg}
theorem yB:∀ (l:List AV),gC σ l=l.map (sub σ)
 | []=>rfl
 | v::r=>by simp[gC,yB r]
def ZY(v:AV):(sub σ v).sz=v.sz:=by cases v<;>simp[sub]<;>simp[yB]
def SV(v:AV):(sub σ v).one=v.one:=by cases v<;>simp[sub]<;>simp
theorem Yg(v:AV):(sub σ v).cells=v.cells.map (sub σ):=by
 cases v with
 | agg b=>simp[sub,yB]
 | p v=>?_
 | _=>rfl
 cases v<;>first|rfl|skip
 simp only[AV.cells,yG];apply uK;intro x _;rfl
theorem QO(es:List AV):(gC σ es).flatMap AV.cells=(es.flatMap AV.cells).map (sub σ):=by
 induction es with
 | nil=>rfl
 | cons e es b=>simp only[gC,jG,sS,b,Yg]
open Classical in
def wU(st:St)(σ : Sg)(d b:Nat):Nat × Nat:=if h:∃ i:Nat × Nat,(∃ o,st.obj i.1 i.2=some o) /\ σ i.1 i.2=(d,b)then h.choose else(0,0)
def D3(h:rJ st st' σ){s g:Nat}{o:bI}(f:st.obj s g=some o)(hn : σ s g≠(aO,0)):wU st σ (σ s g).1 (σ s g).2=(s,g):=by
 have b:∃ i:Nat × Nat,(∃ o,st.obj i.1 i.2=some o) /\ σ i.1 i.2=((σ s g).1,(σ s g).2):=⟨(s,g),⟨o,f⟩,rfl⟩;unfold wU;rw[dif_pos b];obtain⟨⟨p,j⟩,k⟩:=b.choose_spec;have d : σ b.choose.1 b.choose.2 = σ s g:=k;obtain⟨l,n⟩:=h.inj _ _ _ _ _ _ j f d (by rw[d];exact hn)
 grind
def Cz.sub(Z:Cz)(st:St)(σ : Sg):Cz where
 M:=Z.M
 B s g:=Z.B (wU st σ s g).1 (wU st σ s g).2
 cap s g:=Z.cap (wU st σ s g).1 (wU st σ s g).2
mutual
theorem aQ.sub(h:rJ st st' σ):∀ {v:AV} {x:Value},aQ Z st v x->aQ (Z.sub st σ) st' (Ab.sub σ v) x
 | _,_,.p v x hp=>.p v x hp
 | _,_,.nil=>.nil
 | _,_,.d' s g o k n=>by
  simp only[Ab.sub];by_cases hd : σ s g=(aO,0)
  .rw[hd];exact .eO _ _ _ _ _ _ h.dead.1 h.dead.2
  .exact .d' _ _ _ ((h.live s g o k).resolve_left hd) (by simp only[Cz.sub,D3 h k hd,n])
 | _,_,.own s g off len o b ad c k n j l h3 y=>by
  simp only[Ab.sub];by_cases hd : σ s g=(aO,0)
  .rw[hd];exact .eO _ _ _ _ _ _ h.dead.1 h.dead.2
  .exact .own _ _ _ _ _ b ad c ((h.live s g o k).resolve_left hd) (by simp only[Cz.sub,D3 h k hd,n]) (by simp only[Cz.sub,D3 h k hd];exact j) l (by simpa[iM,yB]using h3) y
 | _,_,.eO s g off len ad c u i=>by
  simp only[Ab.sub];exact .eO _ _ _ _ _ _ (h.rH s g u i).1 (h.rH s g u i).2
 | _,_,.ptr s g ix off o b k n=>by
  simp only[Ab.sub];by_cases hd : σ s g=(aO,0)
  .rw[hd];exact .kP _ _ _ _ _ h.dead.1 h.dead.2
  .exact .ptr _ _ ix off (iM σ o) b ((h.live s g o k).resolve_left hd) (by simp only[Cz.sub,D3 h k hd,n])
 | _,_,.kP s g ix off ad u i=>by
  simp only[Ab.sub];exact .kP _ _ _ _ _ (h.rH s g u i).1 (h.rH s g u i).2
 | _,_,.cp v vM off b o cur T fr vals C j l h3 y D=>.cp v vM off b o cur T fr vals C j l h3 y D
 | _,_,.agg cs vals j l=>by
  simp only[Ab.sub];exact .agg _ vals (λc z=>by rw[yB]at z;obtain⟨d,hd,rfl⟩:=cA.1 z;rw[SV];exact j d hd) (aG.sub h l)
 | _,_,.fn f cs vals j=>by simp only[Ab.sub];exact .fn f _ vals (aG.sub h j)
 | _,_,.bM vs vals j=>by simp only[Ab.sub];exact .bM _ vals (aG.sub h j)
 | _,_,.skip=>.skip
 | _,_,.undef x=>.undef x
theorem aG.sub(h:rJ st st' σ):∀ {v:List AV} {x:List Value},aG Z st v x->aG (Z.sub st σ) st' (gC σ v) x
 | _,_,.nil=>.nil
 | _,_,.cons v x vs xs b hs=>.cons _ _ _ _ (aQ.sub h b) (aG.sub h hs)
end
def bG.sub(h:bG K Z st w)(x:rJ st st' σ):bG K (Z.sub st σ) st' w:=by
 have d:∀ {s' g':Nat} {o':bI},st'.obj s' g'=some o'->∃ s g o,st.obj s g=some o/\o'=iM σ o /\ σ s g=(s',g')/\(Z.sub st σ).B s' g'=Z.B s g/\(Z.sub st σ).cap s' g'=Z.cap s g:=by
  intro s' g' o' i;obtain⟨s,g,o,j,G,rfl⟩:=x.all s' g' o' i;have hd : σ s g≠(aO,0):=λe=>by rw[G]at e;cases e;rw[x.dead.2]at i;cases i
  have:=D3 x j hd;rw[G]at this;exact⟨s,g,o,j,rfl,G,by simp only[Cz.sub,this],by simp only[Cz.sub,this]⟩
 refine⟨λs' g' o' i=>?_,λs g s' g' o o' b i O f p=>?_,h.mem,λs g o b i f=>?_,λs g o b i f=>?_,h.m0,h.eM,h.keep⟩
 .obtain⟨s,g,u,j,rfl,_,l,D⟩:=d i;obtain⟨k1,k2,k3,k4,k5⟩:=h.bT s g u j;refine⟨k1,λe R=>?_,λc Q=>?_,λf=>?_,λb f=>?_⟩
  .simp only[iM,yB,cA]at R;obtain⟨U,J,rfl⟩:=R;rw[ZY];exact k2 U J
  .simp only[iM,QO,cA]at Q;obtain⟨S,I,rfl⟩:=Q;rw[SV];exact k3 S I
  .rw[l]at f;simp[iM,k4 f,gC]
  .rw[l]at f;obtain⟨cur,T,vals,y,z,V,W,X,Y⟩:=k5 b f;refine⟨cur,T,vals,y,?_,V,by rw[D];exact W,by rw[D];simpa[iM,yB]using X,by rw[D];exact Y⟩;show aG _ _ ((gC σ u.es).flatMap AV.cells) vals;rw[QO,<- yB];exact aG.sub x z
 .obtain⟨t,k,u,j,_,q1,l,_⟩:=d i;obtain⟨t',k',ad,F,_,n,C,_⟩:=d O;rw[l]at f;rw[C]at p;obtain⟨y,z⟩:=h.inj _ _ _ _ _ _ b j F f p;subst y;subst z;rw[q1]at n;exact⟨congrArg Prod.fst n,congrArg Prod.snd n⟩
 .obtain⟨t,k,u,j,_,_,l,_⟩:=d i;rw[l]at f;exact h.sep _ _ _ b j f
 .obtain⟨t,k,u,j,_,_,l,_⟩:=d i;rw[l]at f;exact h.own _ _ _ b j f
def Ni(st:St)(σ : Sg):Prop:=∀ s g,fU<=s->s<999999->g<(st.site s).length -> σ s g=(s,g)
theorem aA.sub(h:rJ st st' σ)(hp:Ni st σ){keep:List Nat}(n:st'.sl=keep.map λt=>(t,Ab.sub σ (st.get t))):aA st st':=by
 intro K Z w a hs;have l:∀ {s g:Nat},s<999999->(s,g)≠(aO,0):=λh e=>by
  simp_all
 have p:∀ s g,fU<=s->s<999999->g<(st.site s).length->g<(st'.site s).length:=λs g a b i=>by
  have e:=hp s g a b i;cases d:st.obj s g with
  | none=>have:=(h.rH s g i d).1;rw[e]at this;exact this
  | some o =>
   obtain f|f:=h.live s g o d
   .grind
   .rw[e]at f;exact nQ f
 refine⟨Z.sub st σ,⟨λt=>?_,hs.defers,hs.size,hs.heap.sub h⟩,⟨λs a b=>?_,λs g a b i d=>?_,λs g o a b d=>?_⟩⟩;rotate_left
 .grind
 .have:=(h.rH s g i d).2;rw[hp s g a b i]at this;exact this
 .have e:=hp s g a b (nQ d);obtain f|f:=h.live s g o d
  .grind
  .have j:=D3 h d (by rw[e];exact l b);rw[e]at f j;exact .inr ⟨_,f,rfl,by simp[iM,yB],by simp[Cz.sub,j],by simp[Cz.sub,j]⟩
 have:st'.get t=look (keep.map λt=>(t,Ab.sub σ (st.get t))) t .undef:=by rw[<- n];rfl
 rw[this];obtain k|k:=L9 (λt=>Ab.sub σ (st.get t)) t keep
 .rw[k];exact(hs.aY t).sub h
 .rw[k];exact .undef _
def pQ(st:St)(s:Nat):List (Nat × Nat)->Option (Nat × Nat)
 | []=>none
 | (x,k)::r=>if x=s then some (0,k)else(pQ st s r).map λq=>((st.site x).length - k+q.1,q.2)
def uA(st:St)(s:Nat):List (Nat × List (Nat × Nat))->Option (Nat × Nat × Nat)
 | []=>none
 | (b,l)::r=>match pQ st s l with
  | some q=>some (b,q)
  | none=>uA st s r
def nS(st:St)(b:List (Nat × List (Nat × Nat))):Sg:=λs g=>match uA st s b with
 | some (d,o,k)=>if g<k then(aO,0)else(d,o+(g - k))
 | none=>(aO,0)
def mJ(st:St)(σ : Sg):List (Nat × Nat)->List (Option bI)
 | []=>[]
 | (x,k)::r=>((st.site x).drop k).map (Option.map (iM σ))++mJ st σ r
def sL(st:St)(σ : Sg):List (Nat × List (Nat × Nat))->List Site
 | []=>[(aO,[none])]
 | (b,l)::r=>(b,mJ st σ l)::sL st σ r
def St.lV(st:St)(keep:List Nat)(lV:List (Nat × List (Nat × Nat))):St:=⟨keep.map λt=>(t,sub (nS st lV) (st.get t)),sL st (nS st lV) lV⟩
def CU(s:Nat):List (Nat × Nat)->Bool
 | (x,k)::_=>x == s&&k == 0
 | []=>false
def EP(hp:List Site)(b:List (Nat × List (Nat × Nat))):Bool:=hp.all λq=>decide (q.1<fU)||decide (999999<=q.1)||b.any λp=>p.1 == q.1&&CU q.1 p.2
def AE(hp:List Site)(b:List (Nat × List (Nat × Nat))):Bool:=EP hp b&&xK (b.flatMap λq=>q.2.map (·.1))&&xK (aO::b.map (·.1))
theorem IB{s:Nat}:∀ {l:List (Nat × Nat)} {q:Nat × Nat},pQ st s l=some q->s∈l.map (·.1)
 | (x,k)::r,q,h=>by
  simp[pQ]at h;split at h
  .grind
  .obtain⟨d,b,_⟩:=cO h;exact tX _ (IB b)
theorem M5{s g:Nat}:∀ {l:List (Nat × Nat)} {o k:Nat},pQ st s l=some (o,k)->k<=g->g<(st.site s).length->(mJ st σ l)[o+(g - k)]?=some (((st.site s)[g]?.getD none).map (iM σ))
 | (x,d)::r,o,k,h,p,n=>by
  simp only[pQ]at h;simp only[mJ];split at h
  .grind
  .obtain⟨q,i,j⟩:=cO h;obtain⟨f,b⟩:=q;obtain⟨rfl,rfl⟩:=j;rw[qG (by simp;omega),ra,lp,show(st.site x).length - d+f+(g - b) - ((st.site x).length - d)=f+(g - b) by omega];exact M5 i p n
theorem Tb{b:Nat}{o':bI}:∀ {l:List (Nat × Nat)},(l.map (·.1)).Nodup->(mJ st σ l)[b]?=some (some o')->∃ s g o off k,pQ st s l=some (off,k)/\k<=g/\off+(g - k)=b/\st.obj s g=some o/\o'=iM σ o
 | [],_,h=>by simp[mJ]at h
 | (x,k)::r,i,h=>by
  simp only[mJ]at h;by_cases d:b<(st.site x).length - k
  .rw[List.getElem?_append_left (by simpa using d),List.getElem?_map,List.getElem?_drop,List.getElem?_eq_getElem (show k+b<(st.site x).length by omega)]at h;simp only[Option.map_some,Option.some.injEq]at h;obtain⟨o,f,rfl⟩:=cO h;exact⟨x,k+b,o,0,k,by simp[pQ],by omega,by omega,by unfold St.obj;rw[List.getElem?_eq_getElem (show k+b<(st.site x).length by omega),f];rfl,rfl⟩
  .rw[List.getElem?_append_right (by simpa using Nat.not_lt.1 d),List.length_map,List.length_drop]at h;rw[List.map_cons,List.nodup_cons]at i;obtain⟨s,g,o,off,y,f,n,z,p,u⟩:=Tb i.2 h;have j:x≠s:=by rintro rfl;exact i.1 (IB f)
   exact⟨s,g,o,(st.site x).length - k+off,y,by simp only[pQ,bD j,f];rfl,n,by omega,p,u⟩
theorem Sn{s g z f:Nat}:∀ {l:List (Nat × Nat)} {o y k i:Nat},pQ st s l=some (o,k)->pQ st z l=some (y,i)->k<=g->i<=f->g<(st.site s).length->f<(st.site z).length->o+(g - k)=y+(f - i)->s=z/\g=f
 | (x,O)::r,o,y,k,i,h,b,G,u,F,p,e=>by
  simp only[pQ]at h b;split at h
  .rename_i D;subst D;cases h;split at b
   .grind
   .obtain⟨⟨J,I⟩,C,n⟩:=cO b
    grind
  .obtain⟨⟨R,Q⟩,C,n⟩:=cO h;simp only[c5]at n;obtain⟨rfl,rfl⟩:=n;split at b
   .grind
   .obtain⟨⟨J,I⟩,j,d⟩:=cO b;simp only[c5]at d;obtain⟨rfl,rfl⟩:=d;exact Sn C j G u F p (by omega)
theorem Ga{s d:Nat}{q:Nat × Nat}:∀ {b:List (Nat × List (Nat × Nat))},uA st s b=some (d,q)->∃ l,(d,l)∈b/\pQ st s l=some q
 | (k,l)::r,h=>by
  simp[uA]at h;split at h
  .grind
  .obtain⟨j,f,i⟩:=Ga h
   grind
theorem La{s f:Nat}{q:Nat × Nat}{l:List (Nat × Nat)}:∀ {b:List (Nat × List (Nat × Nat))},(b.flatMap λq=>q.2.map (·.1)).Nodup->(f,l)∈b->pQ st s l=some q->uA st s b=some (f,q)
 | (n,j)::r,d,hm,h=>by
  simp[uA];rw[jG,GS]at d;obtain hm|hm:=cI.1 hm
  .grind
  .cases i:pQ st s j with
   | none=>exact La d.2.1 hm h
   | some k=>exact absurd rfl (d.2.2 s (IB i) s (kC.2 ⟨_,hm,IB h⟩))
theorem FX{f:Nat}{l:List (Nat × Nat)}:∀ {b:List (Nat × List (Nat × Nat))},(b.map (·.1)).Nodup->(f,l)∈b->look (sL st σ b) f []=mJ st σ l
 | (i,h)::r,d,hm=>by
  rw[jH,uL]at d;simp[sL];obtain hm|hm:=cI.1 hm
  .grind
  .rw[bD]
   .exact FX d.2 hm
   .grind
theorem KS{d:Nat}:∀ {b:List (Nat × List (Nat × Nat))},d∉b.map (·.1)->look (sL st σ b) d []=if aO=d then[none]else[]
 | [],_=>rfl
 | (i,f)::r,h=>by simp only[jH,cI,not_or]at h;simp[sL];rw[bD (wJ h.1)];exact KS h.2
theorem Sm{s g:Nat}:(st.site s)[g]?.getD none=st.obj s g:=rfl
theorem XF{α β : Type}{l:List (α × β)}(hn:(l.map (·.1)).Nodup){x : α}{y d : β}(h:(x,y)∈l)(b:(x,d)∈l):y=d:=by
 induction l with
 | nil=>cases h
 | cons q r f =>
  rw[jH]at hn;obtain h|h:=cI.1 h<;>obtain b|b:=cI.1 b
  .grind
  .grind
  .grind
  .grind
theorem z49{keep:List Nat}{f:List (Nat × List (Nat × Nat))}(h:AE st.hp f=true):rJ st (st.lV keep f) (nS st f)/\Ni st (nS st f):=by
 simp only[AE,jO]at h;obtain⟨⟨h1,h2⟩,X⟩:=h;have n2:=I5 h2;have O:=I5 X;rw[uL]at O;have hD:=KS (st:=st) (σ := nS st f) O.1
 have j:0<((st.lV keep f).site aO).length/\(st.lV keep f).obj aO 0=none :=
  ⟨by show 0<(look (sL st (nS st f) f) aO []).length;rw[hD];simp,by show((look (sL st (nS st f) f) aO [])[0]?).getD none=none;rw[hD];rfl⟩
 have U:Ni st (nS st f):=λs g a b Q=>by
  obtain X|⟨q,hq,rfl,X⟩:=BR (d:=([]:List (Option bI))) (l:=st.hp) (s:=s)
  .simp_all
  .have:=k8.1 h1 q hq;simp only[Dc,decide_eq_true_eq,List.any_eq_true,jO,beq_iff_eq]at this;obtain(Y|Y)|⟨⟨p1,p2⟩,Y,h5,h6⟩:=this
   .omega
   .omega
   .simp only at h5;subst h5;have D:pQ st q.1 p2=some (0,0):=by
     cases p2 with
     | nil=>cases h6
     | cons y r =>
      obtain⟨x,k⟩:=y;simp only[CU,jO,beq_iff_eq]at h6;obtain⟨rfl,rfl⟩:=h6;simp only[pQ,cH]
    unfold nS;rw[La n2 Y D];simp
 refine⟨⟨λs g o D=>?_,λs g Q D=>?_,λs g z S o o' D J p u=>?_,λz S o' J=>?_,j⟩,U⟩
 .have Q:=nQ D;unfold nS;cases F:uA st s f with
  | none=>exact .inl rfl
  | some q =>
   obtain⟨z,n,k⟩:=q;by_cases C:g<k
   .left;simp only[C,cH]
   obtain⟨l,R,W⟩:=Ga F;right;simp only[C,fQ];show((look (sL st (nS st f) f) z [])[n+(g - k)]?).getD none=_;rw[FX O.2 R,M5 W (by omega) Q,Sm,D];rfl
 .unfold nS;cases F:uA st s f with
  | none=>exact j
  | some q =>
   obtain⟨z,n,k⟩:=q;by_cases C:g<k
   .simp only[C,cH];exact j
   simp only[C,fQ];obtain⟨l,R,W⟩:=Ga F;have hc:=M5 (σ := nS st f) W (show k<=g by omega) Q;refine⟨?_,?_⟩
   .show n+(g - k)<(look (sL st (nS st f) f) z []).length;rw[FX O.2 R];exact(iU.1 hc).1
   .show((look (sL st (nS st f) f) z [])[n+(g - k)]?).getD none=none;rw[FX O.2 R,hc,Sm,D];rfl
 .have Q:=nQ D;have ad:=nQ J;unfold nS at p u;cases F:uA st s f with
  | none=>rw[F]at u;exact absurd rfl u
  | some q =>
   obtain⟨s1,n,k⟩:=q;rw[F]at p u;by_cases C:g<k
   .simp only[C,cH]at u;exact absurd rfl u
   simp only[C,fQ]at p u;obtain⟨l,R,W⟩:=Ga F;cases G:uA st z f with
   | none=>rw[G]at p;exact absurd p u
   | some q' =>
    obtain⟨s2,al,k'⟩:=q';rw[G]at p;by_cases V:S<k'
    .simp only[V,cH]at p;exact absurd p u
    simp only[V,fQ]at p;obtain⟨l',af,ag⟩:=Ga G;simp only[c5]at p;obtain⟨rfl,e⟩:=p;obtain rfl:=XF O.2 R af;exact Sn W ag (by omega) (by omega) Q ad e
 .have i:((look (sL st (nS st f) f) z [])[S]?).getD none=some o':=J;by_cases hm:z∈f.map (·.1)
  .obtain⟨⟨s1,l⟩,I,rfl⟩:=cA.1 hm;rw[FX O.2 I]at i;cases hx:(mJ st (nS st f) l)[S]? with
   | none=>rw[hx]at i;cases i
   | some y =>
    rw[hx]at i;simp only[xW]at i;subst i;have nl:(l.map (·.1)).Nodup:=by
     have:List.Sublist (l.map (·.1)) (f.flatMap λq=>q.2.map (·.1)):=by obtain⟨a,b,e⟩:=NC I;rw[e,Ag,jG];exact(List.sublist_append_left (l.map (·.1)) _).trans (List.sublist_append_right _ _)
     exact this.nodup n2
    obtain⟨s,g,o,n,k,k1,k2,k3,k4,k5⟩:=Tb nl hx;refine⟨s,g,o,k4,?_,k5⟩;unfold nS;rw[La n2 I k1];simp only[show ¬ g<k by omega,fQ,k3]
  .rw[KS hm]at i;exfalso;split at i
   .cases S<;>simp at i
   .simp at i
def aA.lV(keep:List Nat)(lV:List (Nat × List (Nat × Nat)))(h:AE st.hp lV=true):aA st (st.lV keep lV):=aA.sub (z49 h).1 (z49 (keep:=keep) h).2 rfl
end
section
variable {P:Program} {K:Ctx} {Z Z':Cz} {st st':St} {w w':World} {a:Act}
theorem aA.xA{s g n:Nat}{o:bI}{ps:List PV}(I:st.obj s g=some o)(hp:o.es.mapM (bH st n)=some ps)(hd:(s,g)∉o.es.flatMap (aS st n)):aA st ((aI st (o.es.flatMap (aS st n))).setObj s g ⟨o.sz,ps.map .p⟩):=by
 intro K Z w a hs;generalize F:o.es.flatMap (aS st n)=ids at hd;have U:∀ b o,Z.M b=some o->Mx Z st w ids b=some o:=λb o d=>mM d;have hz:cP Z st { Z with M:=Mx Z st w ids } (aI st ids):=(cP.aI ids st).trans (cP.j3 U);have hh:bG K { Z with M:=Mx Z st w ids } (aI st ids) w:=by
  refine(bG.aI ids hs.heap).grow (Keep.refl w _) _ U (λb o d=>?_) (λb o d=>?_) (λs g o b I d=>?_)
  .obtain h|⟨_,h,_⟩:=rM d
   .exact hs.heap.mem b o h
   .exact h
  .obtain h|⟨_,_,s,g,S,_,k,z⟩:=rM d
   .exact .inl h
   .exact .inr (hs.heap.own s g S b k z)
  .obtain⟨G,Q⟩:=EG ids st I;cases hm:Mx Z st w ids b with
   | none=>rfl
   | some y =>
    exfalso;obtain h|⟨_,_,s',g',S,J,k,z⟩:=rM hm
    .rw[hs.heap.sep s g o b G d]at h;cases h
    .obtain⟨rfl,rfl⟩:=hs.heap.inj s g s' g' o S b G k d z;exact Q J
 have j:=RM ids I hd;have C:=hs.heap.bT s g o I;have f:=CT hp;have D:∀ l:List PV,(l.map AV.p).flatMap AV.cells=(l.flatMap PV.cells).map .p:=λl=>by
  induction l with
  | nil=>rfl
  | cons q l ih=>rw[jH,jG,ih,jG,sS];cases q<;>rfl
 have key:(∀ b,Z.B s g=some b->∃ (cur:Array Value) (T:TypeId) (vals:List Value),w.heap[b]?=some (.cells cur T (0,0))/\PReps (Mx Z st w ids) (ps.flatMap PV.cells) vals /\
   (∀ (i:Nat) (v:Value),vals[i]?=some v->cur[i]?=some v)/\cur.size=Z.cap s g*o.sz/\o.es.length<=Z.cap s g/\Z.cap s g<=maxLen)/\(∀ p∈ps,p.sz=o.sz)/\∀ c∈ps.flatMap PV.cells,c.one=true:=by
  cases d:Z.B s g with
  | none =>
   have h0:=C.x5 d;rw[h0]at hp;have:=EH hp;subst this;exact⟨λb d=>(by cases d),by simp,by simp⟩
  | some b =>
   obtain⟨cur,T,vals,k1,k2,k3,k4,k5,k6⟩:=C.bX b d;obtain⟨r1,r2,r3⟩:=Gi (w:=w) (n:=n) (ids:=ids) C.pos (BN hs.heap ids n) k2 hp C.iI C.one (λi hi=>by rw[<- F];exact hi);exact⟨λb' O=>(by cases O;exact⟨cur,T,vals,k1,r1,k3,k4,k5,k6⟩),r2,r3⟩
 obtain⟨q1,q2,q3⟩:=key;have R:=hh.yP j (es:=ps.map .p) (by rw[ra,f]) (λx hx=>?_) (λc V=>?_) (λb d=>?_)
 .refine⟨{ Z with M:=Mx Z st w ids },⟨λu=>?_,hs.defers,hs.size,R⟩,.dW (hz.trans (cP.setObj _ _ s g o ⟨o.sz,ps.map .p⟩ j rfl (by simp[f])))⟩;rw[show((aI st ids).setObj s g ⟨o.sz,ps.map .p⟩).get u=st.get u from AB (s:=(aI st ids).setObj s g ⟨o.sz,ps.map .p⟩) (t:=st) (A9 ids st) u];exact aQ.mono (hz.trans (cP.setObj _ _ s g o ⟨o.sz,ps.map .p⟩ j rfl (by simp[f]))) (hs.aY u)
 .obtain⟨p,iO,rfl⟩:=cA.1 hx;exact q2 p iO
 .rw[D]at V;obtain⟨p,iO,rfl⟩:=cA.1 V;exact q3 p iO
 .obtain⟨cur,T,vals,J,k,z,W,X,Y⟩:=q1 b d;refine⟨cur,T,vals,J,?_,z,W,X,Y⟩;rw[D];exact aG.lZ k
def aA.yX{s g n:Nat}{o:bI}(ps:List PV)(ids:List (Nat × Nat))(b:st.obj s g=some o)(hp:o.es.mapM (bH st n)=some ps)(hi:o.es.flatMap (aS st n)=ids)(hd:(s,g)∉ids):aA st ((aI st ids).setObj s g ⟨o.sz,ps.map .p⟩):=by subst hi;exact aA.xA b hp hd
theorem z72(n:Nat)(st:St)(s g off b:Nat):aS st (n+1) (.own s g off b)=(s,g)::(match st.obj s g with|some o=>o.es.flatMap (aS st n)|none=>[]):=rfl
end
mutual
def xJ:AV->Bool
 | .p u=>u.cN
 | .cp u _ _=>u.cN
 | .agg b=>rL b
 | .fn _ b=>rL b
 | .bM b=>rL b
 | _=>true
def rL:List AV->Bool
 | []=>true
 | v::r=>xJ v&&rL r
end
def BI(st:St):Bool:=st.sl.all (λq=>xJ q.2)&&st.hp.all λq=>q.2.all λo=>match o with|some o=>rL o.es|none=>true
theorem IQ:∀ {l:List AV},rL l=true ↔ ∀ v∈l,xJ v=true
 | []=>by simp[rL]
 | v::l=>by simp[rL,IQ (l:=l)]
def yY(q:mL)(m:zaV):FA:=⟨0,λ_ _=>True,λ_ _ _ _ h=>h,false,true,λK Z st _=>q.p Z st/\K.M0 m.1=none/\(K.X0 m.1\/K.w0.heap.size<=m.1)/\∃ d b,Z.M m.1=some (.map d b)/\EN Z.M m.2.1 m.2.2 d b,by
 rintro K Z st w Z' st' w' f ⟨i,j,k,d,b,l,n,o,u⟩;exact⟨q.m _ _ _ _ f.Bl i,j,k,d,b,f.M _ _ l,n.mono f.M,o.mono f.M,u⟩⟩
def G4:mL:=⟨λ_ _=>True,λ_ _ _ _ _ h=>h⟩
section
variable {P:Program} {K:Ctx} {Z Z':Cz} {st st' st1:St} {w w':World} {a:Act} {N:Nat} {A B:Option FA} {Post:Exit->St->Option FA->Prop} {cC:St->Option FA->Prop} {ac:AC} {q:mL} {m:zaV}
theorem MR.holds(h:∀ K Z st w,nN A K Z st w->nN B K Z st w)(k:MR P N ac st B Post):MR P N ac st A Post :=
 λcode i K Z w a Q d hs b f=>k code i K Z w a Q d hs (h _ _ _ _ b) f
def Vf{r:Nat}{ks b:List PV}:∀ K Z st w,nN (some (sN r ks b)) K Z st w->nN (some (gH G4 (some (r,ks,b)))) K Z st w :=
 λ_ _ _ _ h=>⟨trivial,h⟩
theorem MR.UU(k:MR P N ac st (some (yY q m)) Post):MR P N ac st (some (gH q (some m))) Post:=by
 intro code D K Z w a Q y hs x z;obtain⟨hq,l,C,es,clock,F,G,I,J⟩:=x
 let f:Nat->Option Obj:=λb=>if b=m.1 then w.heap[m.1]? else Z.M b
 have d:∀ b o,Z.M b=some o->f b=some o:=λb o j=>by
  simp[f];rw[bD];· exact j
  .rintro rfl;rw[l.m]at j;cases j
 have n:bG K { Z with M:=f } st w:=by
  refine hs.heap.grow (Keep.refl _ _) f d (λb o i=>?_) (λb o i=>?_) (λs g o b j i=>?_)
  .simp[f]at i;split at i
   .grind
   .exact hs.heap.mem b o i
  .grind
  .simp[f];rw[bD];· exact hs.heap.sep s g o b j i
   .rintro rfl;exact l.o s g o j i
 have hz:cP Z st { Z with M:=f } st:=.j3 d;have p:K.M0 m.1=none:=by
  cases h:K.M0 m.1 with
  | none=>rfl
  | some o=>have:=hs.heap.m0 _ _ h;rw[l.m]at this;cases this
 exact k code D K { Z with M:=f } w a Q y ⟨λu=>aQ.mono hz (hs.aY u),hs.defers,hs.size,n⟩ ⟨q.m _ _ _ _ (.dW hz) hq,p,C,es,clock,by simp[f];exact F,G.mono d,I.mono d,J⟩ z
mutual
theorem aQ.cN{M':Nat->Option Obj}(i:∀ b cur T fr,Z.M b=some (.cells cur T fr)->M' b=some (.cells cur T fr)):∀ {u:AV} {x:Value},aQ Z st u x->xJ u=true->aQ { Z with M:=M' } st u x
 | _,_,.p u x hp,h=>.p u x (PRep.cN i hp h)
 | _,_,.nil,_=>.nil
 | _,_,.d' s g o l k,_=>.d' s g o l k
 | _,_,.own s g off len o b ad c l k d j h3 n,_=>.own s g off len o b ad c l k d j h3 n
 | _,_,.eO s g off len ad c y hd,_=>.eO s g off len ad c y hd
 | _,_,.ptr s g ix off o b l k,_=>.ptr s g ix off o b l k
 | _,_,.kP s g ix off ad y hd,_=>.kP s g ix off ad y hd
 | _,_,.cp u vM off b o cur T fr vals z d j h3 n C,h=>.cp u vM off b o cur T fr vals (i _ _ _ _ z) d j h3 (PReps.cN i n (MD h)) C
 | _,_,.agg cs vals d j,h=>.agg cs vals d (aG.cN i j h)
 | _,_,.fn f iF vals d,h=>.fn f iF vals (aG.cN i d h)
 | _,_,.bM vs vals d,h=>.bM vs vals (aG.cN i d h)
 | _,_,.skip,_=>.skip
 | _,_,.undef x,_=>.undef x
theorem aG.cN{M':Nat->Option Obj}(d:∀ b cur T fr,Z.M b=some (.cells cur T fr)->M' b=some (.cells cur T fr)):∀ {u:List AV} {x:List Value},aG Z st u x->rL u=true->aG { Z with M:=M' } st u x
 | _,_,.nil,_=>.nil
 | _,_,.cons u x us xs f i,h=>by simp only[rL,jO]at h;exact .cons _ _ _ _ (aQ.cN d f h.1) (aG.cN d i h.2)
end
theorem U7{u:AV}(h:xJ u=true):rL u.cells=true:=by
 cases u with
 | p p =>
  cases p with
  | agg b =>
   simp[xJ,zZ]at h;simp only[AV.cells,IQ,cA];rintro _ ⟨c,d,rfl⟩;exact h c d
  | _=>simp[rL,h]
 | agg b=>exact h
 | _=>simp[rL,h]
theorem MR.Dl(hn:BI st=true)(U:jR m.2.1=true)(V:jR m.2.2=true)(k:MR P N ac st (some (gH q (some m))) Post):MR P N ac st (some (yY q m)) Post:=by
 intro code C K Z w a Q X hs W Y;obtain⟨hq,S,hX,es,clock,R,q1,q2,q3⟩:=W
 let n:Nat->Option Obj:=λb=>if b=m.1 then none else Z.M b
 have y:∀ b o,n b=some o->b≠m.1/\Z.M b=some o:=λb o h=>by
  simp only[n]at h;split at h
  .grind
  .grind
 have f:∀ b cur T fr,Z.M b=some (.cells cur T fr)->n b=some (.cells cur T fr):=λb cur T fr h=>by
  simp only[n];rw[bD];· exact h
  .grind
 simp only[BI,jO,k8]at hn;have D:∀ t,xJ (st.get t)=true:=λt=>by
  obtain h|⟨p,h,_,h3⟩:=BR (d:=AV.undef) (l:=st.sl) (s:=t)
  .simp only[St.get,h,xJ]
  .simp only[St.get,h3];exact hn.1 p h
 have J:∀ s g o,st.obj s g=some o->rL o.es=true:=λs g o i=>by
  obtain h|⟨p,h,_,h3⟩:=BR (d:=([]:List (Option bI))) (l:=st.hp) (s:=s)
  .simp_all
  .have:=hn.2 p h;simp only[St.obj,St.site,h3]at i;cases I:p.2[g]? with
   | none=>rw[I]at i;cases i
   | some x=>rw[I]at i;simp only[xW]at i;subst i;exact this _ (wM I)
 have F:bG K { Z with M:=n } st w:=by
  have h:=hs.heap;refine⟨λs g o i=>?_,h.inj,λb o j=>h.mem b o (y b o j).2,λs g o b i j=>?_,h.own,λb o j=>?_,λb o j=>h.eM b o (y b o j).2,h.keep⟩
  .have z:=h.bT s g o i;refine⟨z.pos,z.iI,z.one,z.x5,λb j=>?_⟩;obtain⟨cur,T,vals,k1,k2,k3⟩:=z.bX b j;refine⟨cur,T,vals,k1,aG.cN f k2 ?_,k3⟩;have:=J s g o i;rw[IQ]at this ⊢;intro c C;obtain⟨e,he,C⟩:=kC.1 C;exact IQ.1 (U7 (this e he)) c C
  .have:=h.sep s g o b i j;show(if b=m.1 then none else Z.M b)=none;rw[this];split<;>rfl
  .show(if b=m.1 then none else Z.M b)=some o;rw[bD];· exact h.m0 b o j
   .rintro rfl;rw[S]at j;cases j
 have O:cY Z st { Z with M:=n } st:=⟨λ_ _ _=>dE _,λ_ _ _ _ _ h=>h,λs g o _ _ i=>.inr ⟨o,i,rfl,rfl,rfl,rfl⟩⟩;have j:=hs.heap.mem _ _ R;refine k code C K { Z with M:=n } w a Q X ⟨λu=>aQ.cN f (hs.aY u) (D u),hs.defers,hs.size,F⟩ ⟨q.m _ _ _ _ O hq,⟨by simp[n],λs g o i G=>?_,(sH.1 j).1⟩,hX,es,clock,j,q1.cN f U,q2.cN f V,q3⟩ Y;have:=hs.heap.sep s g o _ i G;rw[R]at this;cases this
def G7{s g sz:Nat}{v v':AV}(j:st.obj s g=some ⟨sz,[v]⟩)(k:v'.sz=v.sz)(p:v.cells.all AV.one=true->v'.cells.all AV.one=true)(hs:aN K Z st w a)(C:∀ x,aG Z st v.cells x->aG Z st v'.cells x) :
  aN K Z (st.setObj s g ⟨sz,[v']⟩) w a/\cP Z st Z (st.setObj s g ⟨sz,[v']⟩):=by
 have n:=cP.setObj Z st s g ⟨sz,[v]⟩ ⟨sz,[v']⟩ j rfl rfl;have h:=hs.heap.bT s g _ j;refine⟨⟨λu=>?_,hs.defers,hs.size,hs.heap.yP j (es:=[v']) rfl (λx l=>?_) (λc i=>?_) (λb z=>?_)⟩,n⟩
 .rw[show(st.setObj s g ⟨sz,[v']⟩).get u=st.get u from AB (s:=st.setObj s g ⟨sz,[v']⟩) (t:=st) rfl u];exact aQ.mono n (hs.aY u)
 .rw[iT]at l;subst l;rw[k];exact h.iI v (by simp)
 .have y:=p (List.all_eq_true.2 λc i=>h.one c (by simpa using i));exact List.all_eq_true.1 y c (by simpa using i)
 .obtain⟨f,T,d,D,o,F,G,I,J⟩:=h.bX b z;refine⟨f,T,d,D,?_,F,G,I,J⟩;simp only[jG,List.flatMap_nil,kY]at o ⊢;exact C _ o
theorem aG.G6{cs:List AV}{i:Nat}{u v:AV}(hi:cs[i]?=some u)(h:∀ x,aQ Z st u x->aQ Z st v x):∀ {xs:List Value},aG Z st cs xs->aG Z st (cs.set i v) xs:=by
 induction cs generalizing i with
 | nil=>simp at hi
 | cons c cs j =>
  intro xs f;cases f with
  | cons _ x _ xs b d =>
   cases i with
   | zero=>simp at hi;subst hi;exact .cons _ _ _ _ (h _ b) d
   | succ i=>exact .cons _ _ _ _ b (j (by simpa using hi) d)
def RX{f:AV->Bool}{cs:List AV}{i:Nat}{v:AV}(h:cs.all f=true)(b:f v=true):(cs.set i v).all f=true:=by grind
theorem MR.UT{s g sz i:Nat}{cs:List AV}(G:st.obj s g=some ⟨sz,[.agg cs]⟩)(hi:cs[i]?=some (.p (.fM m.1)))(k:MR P N ac (st.setObj s g ⟨sz,[.agg (cs.set i (.p (.mp m.1 m.2.1 m.2.2)))]⟩) (some (yY q m)) Post):MR P N ac st (some (yY q m)) Post:=by
 intro code F K Z w a Q z hs y C;obtain⟨hq,n,D,es,clock,f,j,l,d⟩:=y;obtain⟨o,u⟩:=G7 (v':=.agg (cs.set i (.p (.mp m.1 m.2.1 m.2.2)))) G (by simp[AV.sz]) (λh=>RX h rfl) hs λxs b=>aG.G6 hi (λx b=>by
  have b:=b.cF;cases b;exact .p _ _ (.mp m.1 m.2.1 m.2.2 es clock f j l d.1 d.2.1 d.2.2)) b
 exact k code F K Z w a Q z o ⟨q.m _ _ _ _ (.dW u) hq,n,D,es,clock,f,j,l,d⟩ C
theorem aA.Be{s g sz i r:Nat}{ks us:List PV}{cs:List AV}(j:st.obj s g=some ⟨sz,[.agg cs]⟩)(hi:cs[i]?=some (.p (.mp r ks us))):aA st (st.setObj s g ⟨sz,[.agg (cs.set i (.p (.fM r)))]⟩):=by
 intro K Z w a hs;obtain⟨d,f⟩:=G7 (v':=.agg (cs.set i (.p (.fM r)))) j (by simp) (λh=>RX h rfl) hs λxs b=>aG.G6 hi (λx b=>by
  have b:=b.cF;cases b;exact .p _ _ (.fM r)) b
 exact⟨Z,d,.dW f⟩
theorem RL{d:Option Nat}{t kt et:TypeId}{S:List IntKind}{x y z r:Nat}{ks U kc:List PV}{v:PV}(ht:P.underlying t=some (.map kt et))(hk:Fx P kt=some S)
  (hx:st.get x=.p (.fM r)) (hy:st.get y=.p (.agg kc)) (hz:st.get z=.p v) (O:ks.all (sA S)=true) (I:kA S kc=true)
  (k:cC (st.put d .undef) (some (gH q (some (r,mQ kc v ks U))))):ql P N ⟨d,.raw (.mapUpdate t (.tmp x) (.tmp y) (.tmp z)),none⟩ st (some (gH q (some (r,ks,U)))) cC:=by
 refine .raw λK Z w a hN n hA o ho=>?_;obtain⟨hq,l,hX,es,u,q0,q1⟩:=hA;have C:=n.aY x;have D:=n.aY y;have F:=n.aY z
 rw[hx]at C;rw[hy]at D;rw[hz]at F;have W:a.eval (.tmp x)=a.tmps.getD x Go.undef:=rfl;have e2:a.eval (.tmp y)=a.tmps.getD y Go.undef:=rfl;have e3:a.eval (.tmp z)=a.tmps.getD z Go.undef:=rfl;generalize a.tmps.getD x Go.undef=X at C W;generalize a.tmps.getD y Go.undef=Y at D e2;generalize a.tmps.getD z Go.undef=V at F e3;have G:=F.cF;cases C.cF;cases D.cF with
 | agg _ ad i hv =>
  obtain⟨R,J⟩:=Qq hk;obtain⟨h,f,j,Q⟩:=RN ht R (λa b=>J a b) q0 q1 O I hv i G;have hH:bG K Z st (ChangeMaps.setBlock w r (.map h f)):=n.heap.world (Lq w r _) λb hb=>by subst hb;exact⟨l.m,l.o,hX⟩
  refine⟨.skip,Go.undef,_,.undef,some (gH q (some (r,mQ kc v ks U))),Z,by simp[execOp,ho,W,e2,e3,j],.inr ⟨rfl,rfl⟩,.undef _,hH,cP.refl Z st,⟨hq,⟨l.m,l.o,?_⟩,hX,h,f,?_,Q⟩,k⟩
  .show r<(w.heap.setIfInBounds r _).size
   grind
  .show(w.heap.setIfInBounds r _)[r]?=_
   grind
end
def mE(t:eg)(s:Int):List aE:=t.aD.filter λx=>decide (x.f=s)
def wW(a:aH)(x:aE):List eS:=if x.o=0/\a.f≠2 then[⟨x.i,0,⟨x.t,a.q,1⟩,x.w⟩]else[]
def pZ(r:aC)(a:aH)(x y:aE):List eS:=if x.o=y.i/\(x.o≠0\/a.f=0)then[⟨x.i,y.o,⟨x.t,y.t,0⟩,r.times x.w y.w⟩]else[]
def rD(a:aH)(y:aE):List eS:=if y.i=0/\a.f≠1 then[⟨0,y.o,⟨a.p,y.t,2⟩,y.w⟩]else[]
def qP(r:aC)(u:eg)(a:aH)(x:aE):List eS:=wW a x++(mE u a.q).flatMap (pZ r a x)
def tL(t u:eg)(a:aH):List eS:=(mE t a.p).flatMap (qP t.ring u a)++(mE u a.q).flatMap (rD a)
def sK(t u:eg)(a:aH):List eS:=(tL t u a).filter λm=>!decide (m.w=t.ring.zero)
def HM(a:aH)(x:aE):(wW a x).length<=1:=by unfold wW;split<;>simp
def KC(r:aC)(a:aH)(x y:aE):(pZ r a x y).length<=1:=by unfold pZ;split<;>simp
def z54(a:aH)(y:aE):(rD a y).length<=1:=by unfold rD;split<;>simp
theorem vH{α β : Type}{f : α -> List β}{B:Nat}:∀ {l:List α},(∀ x∈l,(f x).length<=B)->(l.flatMap f).length<=l.length*B
 | [],_=>by simp
 | x::l,h=>by have d:=h x (by simp);have i:=vH (l:=l) (f:=f) (B:=B) λy b=>h y (by simp[b]);simp only[jG,gQ,qH,Ah];omega
def EK{α β : Type}(f : α -> List β){l:List α}{k:Nat}(h:k<l.length):(l.take (k+1)).flatMap f=(l.take k).flatMap f++f l[k]:=by rw[ed h,Ag];simp
def bL(t u:eg)(r:Nat)(d b:AV):AV:=.agg [f8 t.ring.kind,hW t.ring.parts,f8 t.i,f8 t.o,f8 t.st,hW t.aM,hW t.fin,hW t.aD,
 f8 u.ring.kind,hW u.ring.parts,f8 u.i,f8 u.o,f8 u.st,hW u.aM,hW u.fin,hW u.aD,.p (.fM r),d,b]
abbrev eF:List Nat:=[900000,900001,900002]
def cS(t u:eg)(r:Nat)(h f:AV)(b d:List (Option bI)):List Site:=[(900000,[some ⟨19,[bL t u r h f]⟩]),(900001,b),(900002,d)]
structure DN (lq aq:AV) (SA SB:List (Option bI)):Prop where
 l:pR eF lq=true
 a:pR eF aq=true
 sa:∀ x∈SA,vT eF x=true
 sb:∀ x∈SB,vT eF x=true
 l1:lq.one=true
 a1:aq.one=true
def DN.hp{lq aq:AV}{SA SB:List (Option bI)}(h:DN lq aq SA SB)(t u:eg)(r:Nat):dS eF (cS t u r lq aq SA SB)=true:=by have b:SA.all (vT eF)=true:=k8.2 h.sa;have d:SB.all (vT eF)=true:=k8.2 h.sb;simp[dS,cS,b,d,vT,bL,pR,lC,h.l,h.a]
def ur(hp:List Site)(a:aH)(r:aC)(T U:List aE)(k:Nat)(x:aE)(o:List eS)(j:Nat):St :=
 ⟨[(0,i0 900000),(3,i0 3),(5,i0 5),(6,.own 7 0 0 o.length),(8,i0 8),(24,hW T),(25,f8 T.length),(26,f8 k),(57,hW U),(58,f8 U.length),(59,f8 j)],
  hp++[(3,[some ⟨3,[.p (enc a)]⟩]),(5,[some ⟨2,[.p (enc r)]⟩]),(7,[some ⟨13,aK o⟩]),(8,[some ⟨12,[.p (enc x)]⟩]),(aO,[none])]⟩
def As(hp:List Site)(a:aH)(r:aC)(T:List aE)(o:List eS)(k:Nat):St :=
 ⟨[(0,i0 900000),(3,i0 3),(5,i0 5),(6,.own 7 0 0 o.length),(24,hW T),(25,f8 T.length),(26,f8 k)],
  hp++[(3,[some ⟨3,[.p (enc a)]⟩]),(5,[some ⟨2,[.p (enc r)]⟩]),(7,[some ⟨13,aK o⟩]),(aO,[none])]⟩
def wX(a:aH)(r:aC)(hp:List Site)(U:List aE)(o:List eS)(k:Nat):St :=
 ⟨[(3,i0 3),(5,i0 5),(6,.own 7 0 0 o.length),(105,hW U),(106,f8 U.length),(107,f8 k)],
  hp++[(3,[some ⟨3,[.p (enc a)]⟩]),(5,[some ⟨2,[.p (enc r)]⟩]),(7,[some ⟨13,aK o⟩]),(aO,[none])]⟩
def yf5{t u:eg}{M:cQ t.ring}(MP:dB M){n:Nat}(hn:n<=M.lim){r0:Nat}{V F:AV}{C D:List (Option bI)}(Y:DN V F C D){a:aH}{T:List aE}{k:Nat}{x:aE}(J:x.w.aJ t.ring/\M.mb n x.w)
  {U:List aE} (hU:∀ y∈U,y.w.aJ t.ring/\M.mb n y.w) (ag:U.length<=1000) {o:List eS} (ho:o.length<=2000000) {Q:Exit->St->Prop} {ks:List Kt} {st:St} (hw:aA st (ur (cS t u r0 V F C D) a t.ring T U k x o 0))
  (hx:gA P 136 Q (fO 2 ks) 2 (ur (cS t u r0 V F C D) a t.ring T U k x (o++U.flatMap (pZ t.ring a x)) U.length)):vL P 136 Q g.qv ks st:=by
 refine b6 (S:=λj:Nat=>ur (cS t u r0 V F C D) a t.ring T U k x (o++(U.take j).flatMap (pZ t.ring a x)) j) (I:=λj=>j<=U.length) (m:=λj=>U.length - j) 0 (by simpa using hw) (by omega) ?_;rintro j hj R ad hr af;have W:=aZ j;have al:((U.take j).flatMap (pZ t.ring a x)).length<=1000:=by have:=vH (l:=U.take j) (f:=pZ t.ring a x) (B:=1) λy _=>KC _ _ _ _;rw[List.length_take]at this;omega
 by_cases d:j<U.length
 .have hs:=EK (pZ t.ring a x) d;have b:∀ st',aA st' (ur (cS t u r0 V F C D) a t.ring T U k x (o++(U.take (j+1)).flatMap (pZ t.ring a x)) (j+1))->R .normal st':=λst' h=>ad (j+1) st' h (by omega) (by omega);rw[hs,<- List.append_assoc]at b;have ao:(o++(U.take j).flatMap (pZ t.ring a x)).length<=2001000:=by rw[gQ];omega
  generalize o++(U.take j).flatMap (pZ t.ring a x)=O at *
  obtain⟨cy,my⟩:=hU _ (bU d);have G:=MP.rS hn J.1 cy J.2 my;have p:=Y.sa;have z:=Y.sb;have hl:=Y.l;have ha:=Y.a;simp[g.qv,ur,cS,bL,d];refine bK d ?_;generalize U[j]'d=y at *
  refine⟨λX=>⟨λh2=>⟨λh3=>?_,λh3=>?_⟩,λh2=>?_⟩,λX=>?_⟩
  .rw[show pZ t.ring a x y=[⟨x.i,y.o,⟨x.t,y.t,0⟩,t.ring.times x.w y.w⟩] from aX ⟨X,.inr h3⟩]at b;refine aW G ?_;simp[W,eL];refine⟨by omega,b _ (aA.cW [0,3,5,6,8,24,25,26,57,58,59] eF [((3,0),3),((5,0),5),((96,0),7),((8,0),8)] ?_)⟩;simp[ur,cS,bL,hl,ha];exact⟨p,z⟩
  .rw[show pZ t.ring a x y=[] from bD λh=>by obtain q|q:=h.2<;>contradiction,kY]at b;simp[W];exact b _ (aA.cW [0,3,5,6,8,24,25,26,57,58,59] eF [((3,0),3),((5,0),5),((7,0),7),((8,0),8)] (by simp[ur,cS,bL,hl,ha];exact⟨p,z⟩))
  .rw[show pZ t.ring a x y=[⟨x.i,y.o,⟨x.t,y.t,0⟩,t.ring.times x.w y.w⟩] from aX ⟨X,.inl h2⟩]at b;refine aW G ?_;simp[W,eL];refine⟨by omega,b _ (aA.cW [0,3,5,6,8,24,25,26,57,58,59] eF [((3,0),3),((5,0),5),((96,0),7),((8,0),8)] ?_)⟩;simp[ur,cS,bL,hl,ha];exact⟨p,z⟩
  .rw[show pZ t.ring a x y=[] from bD λh=>X h.1,kY]at b;simp[W];exact b _ (aA.cW [0,3,5,6,8,24,25,26,57,58,59] eF [((3,0),3),((5,0),5),((7,0),7),((8,0),8)] (by simp[ur,cS,bL,hl,ha];exact⟨p,z⟩))
 .have:j=U.length:=by omega
  subst this;simp[g.qv,ur,cS,bL];refine af _ _ ?_;simpa[ur,cS,bL]using hx
def yf4{t u:eg}{M:cQ t.ring}(MP:dB M){n:Nat}(hn:n<=M.lim){r0:Nat}{W V:AV}{G J:List (Option bI)}(X:DN W V G J){a:aH}{T:List aE}(hT:∀ x∈T,x.w.aJ t.ring/\M.mb n x.w)(av:T.length<=1000)
  (hU:∀ y∈u.aD,y.w.aJ t.ring/\M.mb n y.w) (al:u.aD.length<=1000) {Q:Exit->St->Prop} {ks:List Kt} {st:St} (hw:aA st (As (cS t u r0 W V G J) a t.ring T [] 0))
  (hx:gA P 136 Q (fO 0 ks) 0 (As (cS t u r0 W V G J) a t.ring T (T.flatMap (qP t.ring u a)) T.length)):vL P 136 Q g.rz ks st:=by
 refine b6 (S:=λk:Nat=>As (cS t u r0 W V G J) a t.ring T ((T.take k).flatMap (qP t.ring u a)) k) (I:=λk=>k<=T.length) (m:=λk=>T.length - k) 0 (by simpa using hw) (by omega) ?_;rintro k hk R ad hr ap;have e1:=aZ k;have ag:(mE u a.q).length<=1000:=Nat.le_trans (List.length_filter_le _ _) al;have bb:((T.take k).flatMap (qP t.ring u a)).length<=1001000:=by
  have:=vH (l:=T.take k) (f:=qP t.ring u a) (B:=1001) λx _=>by unfold qP;have h1:=HM a x;have h2:=vH (l:=mE u a.q) (f:=pZ t.ring a x) (B:=1) λy _=>KC _ _ _ _;rw[gQ];omega
  rw[fY]at this;have h3:min k T.length*1001<=1000*1001:=jU _ (by omega);omega
 by_cases j:k<T.length
 .have hs:=EK (qP t.ring u a) j;have d:∀ st',aA st' (As (cS t u r0 W V G J) a t.ring T ((T.take (k+1)).flatMap (qP t.ring u a)) (k+1))->R .normal st':=λst' h=>ad (k+1) st' h (by omega) (by omega);rw[hs]at d;generalize (T.take k).flatMap (qP t.ring u a)=O at *
  have au:=hT _ (bU j);have C:=LZ u a.q (by omega);rw[show u.aD.filter (λx=>decide (x.f=a.q))=mE u a.q from rfl]at C;have af:∀ y∈mE u a.q,y.w.aJ t.ring/\M.mb n y.w:=λy hy=>hU y (kI.1 hy).1;have D:=X.sa;have F:=X.sb;have hl:=X.l;have ha:=X.a;have aw:=HM a T[k];have b:∀ (o:List eS) (st':St),o=O++wW a T[k]->aA st' (ur (cS t u r0 W V G J) a t.ring T (mE u a.q) k T[k] o 0)->vL P 136 R g.qv [.bX 2,.bX 1,.code (.cX [⟨some 98,.dI .add (.t 26) (.c (f8 1)),none⟩,⟨some 26,.mv (.t 98),none⟩] [[8,26,57,58,59],[98]])] st':=λo st' ho ao=>by
   refine yf5 MP hn X au af ag (by rw[ho,gQ];omega) ao ?_;have Y:o++(mE u a.q).flatMap (pZ t.ring a T[k])=O++qP t.ring u a T[k]:=by rw[ho];unfold qP;simp
   rw[Y];generalize O++qP t.ring u a T[k]=O2 at *
   simp[ur,cS,bL,e1];refine d _ (aA.cW [0,3,5,6,24,25,26] eF [((3,0),3),((5,0),5),((7,0),7)] ?_);simp[As,cS,bL,hl,ha];exact⟨D,F⟩
  clear ad d hs;generalize mE u a.q=U at *
  simp[g.rz,As,cS,bL,j];refine bK j ?_;generalize T[k]'j=x at *
  refine⟨λh2=>⟨λh3=>?_,λh3=>?_⟩,λh2=>?_⟩
  .have z:wW a x=[]:=bD λh=>h.2 h3;refine aW C ?_;simp;refine b O _ (by rw[z,kY]) (aA.cW [0,3,5,6,8,24,25,26,57,58,59] eF [((3,0),3),((5,0),5),((7,0),7),((8,0),8)] ?_);simp[ur,cS,bL,hl,ha];exact⟨D,F⟩
  .have z:wW a x=[⟨x.i,0,⟨x.t,a.q,1⟩,x.w⟩]:=aX ⟨h2,h3⟩;refine⟨by omega,?_⟩;refine aW C ?_;simp;refine b (O++[⟨x.i,0,⟨x.t,a.q,1⟩,x.w⟩]) _ (by rw[z]) (aA.cW [0,3,5,6,8,24,25,26,57,58,59] eF [((3,0),3),((5,0),5),((50,0),7),((8,0),8)] ?_);simp[ur,cS,bL,hl,ha];exact⟨D,F⟩
  .have z:wW a x=[]:=bD λh=>h2 h.1;refine aW C ?_;simp;refine b O _ (by rw[z,kY]) (aA.cW [0,3,5,6,8,24,25,26,57,58,59] eF [((3,0),3),((5,0),5),((7,0),7),((8,0),8)] ?_);simp[ur,cS,bL,hl,ha];exact⟨D,F⟩
 .have:k=T.length:=by omega
  subst this;simp[g.rz,As,cS,bL];refine ap _ _ ?_;simpa[As,cS,bL]using hx
def yf3{t u:eg}{r0:Nat}{C z:AV}{n x:List (Option bI)}(D:DN C z n x){r:aC}{a:aH}{U:List aE}(af:U.length<=1000){o:List eS}(ho:o.length<=2000000){Q:Exit->St->Prop}{ks:List Kt}{st:St}(hw:aA st (wX a r (cS t u r0 C z n x) U o 0))
  (hx:gA P 136 Q (fO 4 ks) 4 (wX a r (cS t u r0 C z n x) U (o++U.flatMap (rD a)) U.length)):vL P 136 Q g.sc ks st:=by
 refine b6 (S:=λk:Nat=>wX a r (cS t u r0 C z n x) U (o++(U.take k).flatMap (rD a)) k) (I:=λk=>k<=U.length) (m:=λk=>U.length - k) 0 (by simpa using hw) (by omega) ?_;rintro k ag R X hr ad;have F:=aZ k;have al:((U.take k).flatMap (rD a)).length<=1000:=by have:=vH (l:=U.take k) (f:=rD a) (B:=1) λy _=>z54 _ _;rw[List.length_take]at this;omega
 by_cases d:k<U.length
 .have hs:=EK (rD a) d;have b:∀ st',aA st' (wX a r (cS t u r0 C z n x) U (o++(U.take (k+1)).flatMap (rD a)) (k+1))->R .normal st':=λst' h=>X (k+1) st' h (by omega) (by omega);rw[hs,<- List.append_assoc]at b;have ao:(o++(U.take k).flatMap (rD a)).length<=2001000:=by rw[gQ];omega
  generalize o++(U.take k).flatMap (rD a)=O at *
  have i:=D.sa;have j:=D.sb;have W:=D.l;have V:=D.a;simp[g.sc,wX,cS,bL,d];refine bK d ?_;generalize U[k]'d=y at *
  have skip:rD a y=[]->∀ st',aA st' (wX a r (cS t u r0 C z n x) U O (k+1))->R .normal st':=λh st' Y=>b st' (by rw[h,kY];exact Y);refine⟨λG=>⟨λJ=>?_,λJ=>?_⟩,λG=>?_⟩
  .simp[F];exact skip (bD λh=>h.2 J) _ (aA.cW [3,5,6,105,106,107] eF [((3,0),3),((5,0),5),((7,0),7)] (by simp[wX,cS,bL,W,V];exact⟨i,j⟩))
  .rw[show rD a y=[⟨0,y.o,⟨a.p,y.t,2⟩,y.w⟩] from aX ⟨G,J⟩]at b;refine⟨by omega,?_⟩;simp[F];refine b _ (aA.cW [3,5,6,105,106,107] eF [((3,0),3),((5,0),5),((131,0),7)] ?_);simp[wX,cS,bL,W,V];exact⟨i,j⟩
  .simp[F];exact skip (bD λh=>G h.1) _ (aA.cW [3,5,6,105,106,107] eF [((3,0),3),((5,0),5),((7,0),7)] (by simp[wX,cS,bL,W,V];exact⟨i,j⟩))
 .have:k=U.length:=by omega
  subst this;simp[g.sc,wX,cS,bL];refine ad _ _ ?_;simpa[wX,cS,bL]using hx
section
variable {P:Program} {K:Ctx} {Z Z':Cz} {w w':World} {a:Act}
theorem aG.split{st:St}:∀ {vs us:List AV} {xs:List Value},aG Z st (vs++us) xs->∃ a b,xs=a++b/\aG Z st vs a/\aG Z st us b
 | [],us,xs,h=>⟨[],xs,rfl,.nil,h⟩
 | v::vs,us,_,.cons _ _ _ _ h hs=>by obtain⟨a,b,rfl,d,f⟩:=aG.split (vs:=vs) hs;exact⟨_::a,b,rfl,.cons _ _ _ _ h d,f⟩
theorem aA.G2{t s k sz:Nat}{es:List AV}{hp:List Site}(Y:s<fU)(S:(hp.map (·.1)).contains s=false)(hd:(hp.map (·.1)).contains aO=false)(Cs:dS (hp.map (·.1)) hp=true)(J:lC (hp.map (·.1)) es=true)(hk:k<=es.length) :
  aA ⟨[(t,.own s 0 0 k)],hp++[(s,[some ⟨sz,es⟩]),(aO,[none])]⟩ ⟨[(t,.own s 0 0 k)],hp++[(s,[some ⟨sz,es.take k⟩]),(aO,[none])]⟩:=by
 intro K Z w a hs;have ag:s≠aO:=by unfold fU at Y;unfold aO;omega
 have f:∀ (es:List AV) (u:Nat),(hp.map (·.1)).contains u=true->(⟨[(t,.own s 0 0 k)],hp++[(s,[some ⟨sz,es⟩]),(aO,[none])]⟩:St).site u=look hp u []:=λes u hu=>by simp only[St.site,CS,hu,cH]
 have d:∀ (es:List AV) (u:Nat),(hp.map (·.1)).contains u=false->(⟨[(t,.own s 0 0 k)],hp++[(s,[some ⟨sz,es⟩]),(aO,[none])]⟩:St).site u=if s=u then[some ⟨sz,es⟩]else if aO=u then[none]else[]:=λes u hu=>by simp only[St.site,CS,hu,gP,fQ,look]
 have y:∀ (es:List AV) s' g' o',(⟨[(t,.own s 0 0 k)],hp++[(s,[some ⟨sz,es⟩]),(aO,[none])]⟩:St).obj s' g'=some o'->(hp.map (·.1)).contains s'=true\/(s'=s/\g'=0/\o'=⟨sz,es⟩):=by
  intro es s' g' o' h;cases hu:(hp.map (·.1)).contains s' with
  | true=>exact .inl rfl
  | false =>
   right;simp only[St.obj,d es s' hu]at h;split at h
   .rename_i af;cases g' with
    | zero=>simp at h;exact⟨af.symm,rfl,h.symm⟩
    | succ g=>simp at h
   .split at h
    .cases g'<;>simp at h
    .simp at h
 have n:∀ es:List AV,(⟨[(t,.own s 0 0 k)],hp++[(s,[some ⟨sz,es⟩]),(aO,[none])]⟩:St).obj s 0=some ⟨sz,es⟩:=λes=>by unfold St.obj;rw[d es s S];simp
 have same:∀ u,(hp.map (·.1)).contains u=true->(⟨[(t,.own s 0 0 k)],hp++[(s,[some ⟨sz,es.take k⟩]),(aO,[none])]⟩:St).site u=(⟨[(t,.own s 0 0 k)],hp++[(s,[some ⟨sz,es⟩]),(aO,[none])]⟩:St).site u:=λu hu=>by rw[f _ u hu,f _ u hu]
 have l:∀ u g,(hp.map (·.1)).contains u=true->(⟨[(t,.own s 0 0 k)],hp++[(s,[some ⟨sz,es.take k⟩]),(aO,[none])]⟩:St).obj u g=(⟨[(t,.own s 0 0 k)],hp++[(s,[some ⟨sz,es⟩]),(aO,[none])]⟩:St).obj u g:=λu g hu=>by simp only[St.obj,same u hu]
 have G:=hs.heap.bT s 0 _ (n es);have j:∀ s' g' o',(⟨[(t,.own s 0 0 k)],hp++[(s,[some ⟨sz,es.take k⟩]),(aO,[none])]⟩:St).obj s' g'=some o'->∃ o0,(⟨[(t,.own s 0 0 k)],hp++[(s,[some ⟨sz,es⟩]),(aO,[none])]⟩:St).obj s' g'=some o0:=λs' g' o' h=>by
  obtain hu|⟨rfl,rfl,_⟩:=y _ _ _ _ h
  .rw[l s' g' hu]at h;exact⟨o',h⟩
  .exact⟨_,n es⟩
 refine⟨Z,⟨λu=>?_,hs.defers,hs.size,⟨λs' g' o' h=>?_,λs1 g1 s2 g2 o1 o2 b F Q e1 e2=>?_,hs.heap.mem,λs' g' o' b h z=>?_,λs' g' o' b h z=>?_,hs.heap.m0,hs.heap.eM,hs.heap.keep⟩⟩,⟨λu a b=>?_,λu g a b W hn=>?_,λu g o a b D=>?_⟩⟩
 .have hu:=hs.aY u;simp only[St.get,look]at hu ⊢;split at hu
  .rename_i C;simp only[C,cH];generalize a.tmps.getD u Go.undef=x at hu;cases hu with
   | d' _ _ o D z =>
    exact .d' _ _ _ (n _) z
   | own _ _ _ _ o b ad c D z F Q h3 h4 =>
    rw[n]at D;cases D;exact .own _ _ _ _ _ b ad c (n _) z F Q (by simp;omega) h4
   | eO _ _ _ _ _ _ _ I=>rw[n]at I;cases I
  .rename_i C;simp only[C,fQ];exact .undef _
 .obtain hu|⟨rfl,rfl,rfl⟩:=y _ _ _ _ h
  .rw[l s' g' hu]at h;have X:(⟨[],hp⟩:St).obj s' g'=some o':=by simp only[St.obj,f es s' hu]at h;exact h
   exact oC.gU same (λ_ _ h=>h) (λ_ _ _=>⟨rfl,rfl⟩) hu (FW Cs X) (hs.heap.bT s' g' o' h)
  .refine⟨G.pos,λe V=>G.iI e (iC V),λc S=>?_,λhn=>?_,λb z=>?_⟩
   .obtain⟨e,V,U⟩:=kC.1 S;exact G.one c (kC.2 ⟨e,iC V,U⟩)
   .have:=G.x5 hn;simp only at this;rw[this];simp
   .obtain⟨cur,T,vals,k1,k2,k3,k4,k5,k6⟩:=G.bX b z;have e:es.flatMap AV.cells=(es.take k).flatMap AV.cells++(es.drop k).flatMap AV.cells:=by rw[<- List.flatMap_append,oK]
    rw[e]at k2;obtain⟨v1,v2,rfl,q1,q2⟩:=aG.split k2;refine⟨cur,T,v1,k1,aG.gU (st:=⟨[(t,.own s' 0 0 k)],hp++[(s',[some ⟨sz,es⟩]),(aO,[none])]⟩) (Z:=Z) same (λ_ _ h=>h) (λ_ _ _=>⟨rfl,rfl⟩) q1 ?_,λi v hv=>k3 i v (by rw[wN (iU.1 hv).1];exact hv),k4,by simp only[fY];simp only at k5;omega,k6⟩;have F:lC (hp.map (·.1)) (es.take k)=true:=by rw[yE,k8]at J ⊢;exact λx hx=>J x (iC hx)
    exact MS F
 .obtain⟨O,p⟩:=j _ _ _ F;obtain⟨al,R⟩:=j _ _ _ Q;exact hs.heap.inj _ _ _ _ _ _ b p R e1 e2
 .obtain⟨O,p⟩:=j _ _ _ h;exact hs.heap.sep _ _ _ b p z
 .obtain⟨O,p⟩:=j _ _ _ h;exact hs.heap.own _ _ _ b p z
 .cases hu:(hp.map (·.1)).contains u with
  | true=>rw[same u hu];exact dE _
  | false=>rw[d _ u hu,d _ u hu];split<;>simp
 .cases hu:(hp.map (·.1)).contains u with
  | true=>rw[l u g hu];exact hn
  | false =>
   simp only[d _ u hu]at W;rw[bD (by omega),bD (by unfold aO;omega)]at W;simp at W
 .cases hu:(hp.map (·.1)).contains u with
  | true=>rw[l u g hu];exact .inr ⟨o,D,rfl,rfl,rfl,rfl⟩
  | false =>
   obtain h|⟨rfl,_,_⟩:=y _ _ _ _ D
   .rw[h]at hu;cases hu
   .omega
end
def SE{t u:eg}{M:cQ t.ring}{n:Nat}{a:aH}(h:∀ x∈t.aD,x.w.aJ t.ring/\M.mb n x.w)(f:∀ y∈u.aD,y.w.aJ t.ring/\M.mb n y.w):∀ m∈tL t u a,m.w.aJ t.ring/\M.mb (n+n+1) m.w:=by
 intro m hm;unfold tL at hm;obtain hm|hm:=dN.1 hm
 .obtain⟨x,d,hm⟩:=kC.1 hm;have d:=h x (kI.1 d).1;unfold qP at hm;obtain hm|hm:=dN.1 hm
  .unfold wW at hm;split at hm
   .rw[iT]at hm;subst hm;exact⟨d.1,M.mono d.2 (by omega)⟩
   .cases hm
  .obtain⟨y,b,hm⟩:=kC.1 hm;have b:=f y (kI.1 b).1;unfold pZ at hm;split at hm
   .rw[iT]at hm;subst hm;exact⟨Eu d.1 b.1,M.times d.1 b.1 d.2 b.2⟩
   .cases hm
 .obtain⟨y,b,hm⟩:=kC.1 hm;have b:=f y (kI.1 b).1;unfold rD at hm;split at hm
  .rw[iT]at hm;subst hm;exact⟨b.1,M.mono b.2 (by omega)⟩
  .cases hm
theorem FQ(ks:List Nat)(ids:List ((Nat × Nat) × Nat)):∀ l:List PV,fq ks ids (l.map AV.p)=l.map AV.p
 | []=>rfl
 | x::l=>by simp only[jH,fq,eo,FQ ks ids l]
def z58{t u:eg}{M:cQ t.ring}(MP:dB M){n:Nat}(hn:n+n+1<=M.lim)(hT:∀ x∈t.aD,x.w.aJ t.ring/\M.mb n x.w)(hU:∀ y∈u.aD,y.w.aJ t.ring/\M.mb n y.w)(al:t.aD.length<=900)(ao:u.aD.length<=900)(B:∀ a,(tL t u a).length<=1000000)
  {r0:Nat} {D z:AV} {j m:List (Option bI)} (A:DN D z j m) (a:aH) :
  kU P 66 [i0 900000,.p (enc a)] (cS t u r0 D z j m) none (.fr 13 (ens (sK t u a))) (cS t u r0 D z j m) none:=by
 have h:=A.sa;have i:=A.sb;have R:=A.l;have Q:=A.a;refine kU.fZ c.jm (by simp) rfl (by simp[cS,fU]) rfl ?_ λq=>MR.cE ?_
 .show(vU eF (.fr 13 (ens (sK t u a)))&&dS eF (cS t u r0 D z j m))=true;rw[A.hp,Bool.and_true];have h1:=jF (sK t u a) 13 rfl;have h2:(sK t u a).length<=1000000:=dM (kB _ _) (B a);have h3:(ens (sK t u a)).length<=eL:=by simp[-gW,ens,eL];omega
  simp[vU];exact λx C=>by simpa using List.all_eq_true.1 h1 x C
 have L:=LZ t a.p (by omega);have N:=LZ u a.q (by omega);rw[show t.aD.filter (λx=>decide (x.f=a.p))=mE t a.p from rfl]at L;rw[show u.aD.filter (λx=>decide (x.f=a.q))=mE u a.q from rfl]at N;have W:∀ x∈mE t a.p,x.w.aJ t.ring/\M.mb n x.w:=λx C=>hT x (kI.1 C).1;have I:(mE t a.p).length<=1000:=dM (kB _ _) (by omega);have J:(mE u a.q).length<=1000:=dM (kB _ _) (by omega);have Y:=SE (a:=a) hT hU;have d:=B a;have V:(tL t u a).filter (λx=>!decide (x.w=t.ring.zero))=sK t u a:=rfl;generalize sK t u a=b at *
 simp[g.jm,tQ,cS,bL];refine aW L ?_;simp;refine yf4 (t:=t) (u:=u) (r0:=r0) MP (n:=n) (by omega) A (a:=a) (T:=mE t a.p) W I hU (by omega) (aA.nl 6 77 13 rfl (aA.cW [0,3,5,6,24,25,26] eF [((3,0),3),((5,0),5),((77,0),7)] ?_)) ?_
 .simp[As,cS,bL,R,Q];exact⟨h,i⟩
 have ad:((mE t a.p).flatMap (qP t.ring u a)).length<=1000000:=by unfold tL at d;rw[gQ]at d;omega
 have hO:tL t u a=(mE t a.p).flatMap (qP t.ring u a)++(mE u a.q).flatMap (rD a):=rfl;rw[hO]at Y d V;generalize (mE t a.p).flatMap (qP t.ring u a)=O at *
 simp[As,cS,bL];refine aW N ?_;simp;refine yf3 (t:=t) (u:=u) (r0:=r0) A (r:=t.ring) (a:=a) J (o:=O) (by omega) (aA.cW [3,5,6,105,106,107] eF [((3,0),3),((5,0),5),((7,0),7)] ?_) ?_
 .simp[wX,cS,bL,R,Q];exact⟨h,i⟩
 generalize O++(mE u a.q).flatMap (rD a)=E at *
 simp[wX,cS,bL];refine IV (Wf 117 [.ref (enc t.ring)] (λx=>decide (x.w=t.ring.zero)) E d λx C=>Yy x t.ring ((MP.pr hn (Y x C).1 (Y x C).2).mono (by omega))) (by simp[A7,AJ]) rfl rfl (by simp) (by simp) (by simp;have:=kB (λx:eS=>!decide (x.w=t.ring.zero)) E;omega) rfl (jF _ _ rfl) (cells_one Kz _) (by simp) (kB _ _) ?_;rw[V];have ag:b.length<=E.length:=by rw[<- V];exact kB _ _
 have S:=It b (List.replicate (E.length - b.length) (⟨0,0,⟨0,0,0⟩,dT⟩:eS));have af:(ens (b++List.replicate (E.length - b.length) (⟨0,0,⟨0,0,0⟩,dT⟩:eS))).length=E.length:=by simp[-gW,ens];omega
 generalize ens (b++List.replicate (E.length - b.length) (⟨0,0,⟨0,0,0⟩,dT⟩:eS))=G at *
 have U:lC eF (G.map AV.p)=true:=by rw[yE,k8];intro x C;obtain⟨y,_,rfl⟩:=cA.1 C;rfl
 have H:∀ F,aA F ⟨[(4,.own 7 0 0 b.length)],cS t u r0 D z j m++[(7,[some ⟨13,G.map AV.p⟩]),(aO,[none])]⟩->Du [(4,none)] (cS t u r0 D z j m) (.fr 13 (ens b)) (cS t u r0 D z j m) .ret F:=λF X=>by
  refine⟨.inl rfl,_,X.trans (aA.G2 (t:=4) (s:=7) (k:=b.length) (sz:=13) (es:=G.map AV.p) (hp:=cS t u r0 D z j m) (by decide) rfl rfl (A.hp t u r0) U (by rw[ra];omega)),[.own 7 0 0 b.length],rfl,⟨rfl,.inr ⟨7,0,rfl,?_,?_⟩⟩,?_⟩
  .simp[-gW,dD,ens]
  .rw[S];rfl
  .simp[qA,cS,St.site,look]
 cases ap:G.all PV.flat
 .simp[aI];exact H _ (aA.cW [4] eF [((7,0),7)] (by simp[cS,bL,R,Q];exact⟨⟨h,i⟩,FQ _ _ G⟩))
 .simp;exact H _ (aA.cW [4] eF [((7,0),7)] (by simp[cS,bL,R,Q];exact⟨⟨h,i⟩,FQ _ _ G⟩))
def AW{α : Type}[Enc α](h:∀ x : α,(enc x).cN=true)(l:List α):jR (ens l)=true:=by rw[zZ];intro v b;obtain⟨x,_,rfl⟩:=cA.1 b;exact h x
def XG(x:aF):(enc x).cN=true:=by simp[PV.cN,jR,ME]
theorem HN:∀ w:GW,(enc w).cN=true
 | .mk q c i s p d=>by
  have h:∀ x∈d,(enc x).cN=true:=λx b=>HN x;have f:jR (ens d)=true:=by rw[zZ];intro v j;obtain⟨x,b,rfl⟩:=cA.1 j;exact h x b
  simp[PV.cN,jR,ME,f,AW XG p]
termination_by w=>SizeOf.sizeOf w
decreasing_by
 have:=List.sizeOf_lt_of_mem b
 simp_wf;omega
def PG(x:aE):(enc x).cN=true:=by have h:=HN x.w;obtain⟨f,i,o,t,w⟩:=x;cases w;simp[PV.cN,jR]at h ⊢;exact h
theorem ya9(x:Int):(enc x).cN=true:=rfl
theorem Im(x:aH):(enc x).cN=true:=rfl
theorem yej(σ : Sg)(l:List PV):gC σ (l.map .p)=l.map .p:=by rw[yB,yG];rfl
def H3(σ : Sg){α : Type}[Enc α](l:List α):gC σ (aK l)=aK l:=yej σ (ens l)
def P2(σ : Sg)(l r:List AV):gC σ (l++r)=gC σ l++gC σ r:=by simp[yB]
def FH{st st':St}(keep:List Nat)(b:List (Nat × List (Nat × Nat)))(h:AE st.hp b=true)(f:Sg->Prop)(i:f (nS st b))(d:∀ σ,f σ -> (⟨keep.map λt=>(t,Go.Ab.sub σ (st.get t)),sL st σ b⟩:St)=st'):aA st st':=by have e:st.lV keep b=st':=d _ i;exact e ▸ aA.lV keep b h
def sM:List Bool->Nat
 | []=>0
 | b::l=>(!b).toNat+sM l
theorem Ks:∀ (l:List Bool) (i:Nat),l.getD i true=false->sM (l.set i true)+1=sM l
 | [],i,h=>by simp at h
 | b::l,0,h=>by
  have:b=false:=by simpa using h
  subst this;simp[sM];omega
 | b::l,i+1,h=>by have:=Ks l i (by simpa using h);simp only[List.set_cons_succ,sM];omega
def L7{l:List Bool}{i q:Nat}(b:i<l.length):(l.set i true).getD q false=if i=q then true else l.getD q false:=by
 rw[eV,eV,vK];by_cases h:i=q
 .subst h;simp[b]
 .simp[h]
def dH{α : Type}(f:Nat):List α -> AV
 | []=>.nil
 | _::l=>.own f l.length 0 (l.length+1)
def eK{α : Type}[Enc α](sz:Nat)(L:List α):List (Option bI):=match L with
 | []=>[]
 | _::l=>List.replicate l.length none++[some ⟨sz,aK L⟩]
def kL(n:Nat):List PV:=(List.range n).map λi=>g6 ((i:Nat):Int)
def dQ(r:Nat)(L:List aH):zaV:=(r,ens L,kL L.length)
def iE(at_:aH):List aH->Nat->Option Nat
 | [],_=>none
 | x::l,i=>if at_=x then some i else iE at_ l (i+1)
def dZ(L:List aH)(x:aH):List aH:=if x∈L then L else L++[x]
def cZ(t u:eg)(r:Nat)(L:List aH)(K:List aE):List Site:=cS t u r (dH 900001 L) (dH 900002 K) (eK 3 L) (eK 12 K)
theorem HS{α : Type}[Enc α](sz:Nat)(L:List α):∀ x∈eK sz L,vT eF x=true:=by
 intro x b;cases L with
 | nil=>cases b
 | cons y l =>
  obtain b|b:=dN.1 b
  .rw[B8 b];rfl
  .simp only[iT]at b;subst b;show lC _ (aK (y::l))=true;simp
def nO(L:List aH)(K:List aE):DN (dH 900001 L) (dH 900002 K) (eK 3 L) (eK 12 K) :=
 ⟨by cases L<;>rfl,by cases K<;>rfl,HS 3 L,HS 12 K,by cases L<;>rfl,by cases K<;>rfl⟩
theorem Tg{α : Type}[Enc α](σ : Sg)(sz:Nat)(L:List α):(eK sz L).map (Option.map (iM σ))=eK sz L:=by
 cases L with
 | nil=>rfl
 | cons y l=>simp only[eK,sS,List.map_replicate,jH,JC,E4,Option.map_none,iM,H3]
def O6{α : Type}{σ : Sg}{f:Nat}(h:∀ g,σ f g=(f,g))(L:List α):sub σ (dH f L)=dH f L:=by cases L<;>simp[dH,sub,h]
def Pv{α : Type}[Enc α](sz:Nat)(L:List α)(x : α):eK sz (L++[x])=List.replicate L.length none++[some ⟨sz,aK (L++[x])⟩]:=by cases L<;>simp[eK]
def PK{α : Type}(f:Nat)(L:List α)(x : α):dH f (L++[x])=.own f L.length 0 (L.length+1):=by cases L<;>simp[dH]
theorem Mc:∀ {l:List PV},jR l=true->rL (l.map .p)=true
 | [],_=>rfl
 | v::l,h=>by simp only[jR,jO]at h;simp only[jH,rL,xJ,h.1,Mc h.2,GU]
theorem Pu{α : Type}[Enc α](d:∀ x : α,(enc x).cN=true)(sz:Nat)(L:List α):(eK sz L).all (λo=>match o with|some o=>rL o.es|none=>true)=true:=by
 cases L with
 | nil=>rfl
 | cons y l =>
  rw[k8];intro x b;obtain b|b:=dN.1 b
  .rw[B8 b]
  .simp only[iT]at b;subst b;exact Mc (AW d _)
def XK{α : Type}(f:Nat)(L:List α):xJ (dH f L)=true:=by cases L<;>rfl
def OZ(t u:eg)(r:Nat)(L:List aH)(K:List aE):BI ⟨[],cZ t u r L K⟩=true:=by have b:=Pu Im 3 L;have d:=Pu PG 12 K;simp[BI,cZ,cS,bL,rL,xJ,PV.cN,XK,AW ya9,AW HN,AW PG];exact⟨k8.1 b,k8.1 d⟩
theorem QZ{x:aH}{v:PV}:∀ {L:List aH} {vs:List PV},vs.length=L.length->x∉L->mQ [g6 x.p,g6 x.q,g6 x.f] v (ens L) vs=(ens (L++[x]),vs++[v])
 | [],[],_,_=>rfl
 | y::l,w::vs,m,d=>by
  have n:=QZ (x:=x) (v:=v) (L:=l) (vs:=vs) (by simpa using m) (λh=>d (List.mem_cons_of_mem _ h));show mQ _ v (.agg [g6 y.p,g6 y.q,g6 y.f]::ens l) (w::vs)=_;simp only[mQ];rw[if_neg,n]
  .rfl
  .intro b;apply d;cases x;cases y;simp[tD]at b;obtain⟨i,j,k⟩:=b;subst i j k;exact List.mem_cons_self
theorem MQ(x:aH):∀ (L:List aH) (i:Nat),oE [g6 x.p,g6 x.q,g6 x.f] (ens L) ((List.range' i L.length).map λi=>g6 ((i:Nat):Int))=(iE x L i).map λj=>g6 (j:Int)
 | [],i=>rfl
 | y::l,i=>by
  have d:=MQ x l (i+1);simp only[ens,jH,qH,List.range'_succ]at d ⊢;show oE _ (PV.agg [g6 y.p,g6 y.q,g6 y.f]::_) _=_;simp only[oE,iE];by_cases h:x=y
  .subst h;rw[aX rfl,aX (by simp[tD])];rfl
  .rw[bD h,bD]
   .exact d
   .intro b;apply h;cases x;cases y;simp[tD]at b;obtain⟨k,m,n⟩:=b;subst k m n;rfl
theorem CX{x:aH}:∀ {L:List aH} {i:Nat},iE x L i=none ↔ x∉L
 | [],i=>by simp[iE]
 | y::l,i=>by
  simp only[iE,cI,not_or];by_cases h:x=y
  .rw[aX h];simp[h]
  .rw[bD h,CX];simp[h]
def aH.ok(x:aH):Prop:=(0<=x.p/\x.p<1000)/\(0<=x.q/\x.q<1000)/\0<=x.f/\x.f<=2
def Di{n:Int}(h:0<=n/\n<1000):(Lit.int .i64 n).wf=true:=by simp[Lit.wf,IntKind.min,IntKind.max,IntKind.signed,IntKind.bits];omega
def Eo{x:aH}(h:x.ok):kA [.i64,.i64,.i64] [g6 x.p,g6 x.q,g6 x.f]=true:=by obtain⟨b,d,i,j⟩:=h;simp[kA,Di b,Di d,Di (show 0<=x.f/\x.f<1000 by omega)]
def MA{L:List aH}(h:∀ x∈L,x.ok):∀ y∈ens L,sA [.i64,.i64,.i64] y=true:=by intro y d;obtain⟨x,b,rfl⟩:=cA.1 d;exact Eo (h x b)
theorem Md(n:Nat):jR (kL n)=true:=by rw[zZ];intro v b;obtain⟨i,_,rfl⟩:=cA.1 b;rfl
theorem PF(t u:eg)(r:Nat)(L:List aH)(K:List aE)(x:aH)(b:Bool):BI ⟨[(0,i0 900000),(3,i0 3),(5,i4 b)],cZ t u r L K++[(3,[some ⟨3,[.p (enc x)]⟩]),(aO,[none])]⟩=true:=by have h:=OZ t u r L K;unfold BI at h ⊢;simp only[List.all_nil,GN]at h;simp only[List.all_append];rw[h];rfl
def TH{t u:eg}{r:Nat}{L:List aH}{K:List aE}(V:L.length<=100000)(S:∀ y∈L,y.ok){x:aH}(F:x.ok) :
  kU P 70 [i0 900000,.p (enc x)] (cZ t u r L K) (some (dQ r L)) (.av (.bM [])) (cZ t u r (dZ L x) K) (some (dQ r (dZ L x))):=by
 refine kU.fZ c.gg (by simp) rfl (by simp[cZ,cS,fU]) rfl ?_ λq=>?_
 .show(true&&dS eF (cZ t u r (dZ L x) K))=true;rw[show dS eF (cZ t u r (dZ L x) K)=true from (nO _ _).hp t u r];rfl
 have o:=HS 3 L;have C:=HS 12 K;have E:=(nO L K).l;have R:=(nO L K).a;unfold g.gg;refine MR.dG ?_;simp[tQ,cZ,cS];refine MR.UU ?_;refine MR.UT (s:=900000) (g:=0) (sz:=19) (i:=16) rfl rfl ?_;refine MR.dG ?_;simp[bL,dQ];refine⟨⟨Eo F,MA S⟩,?_⟩;have n:=MQ x L 0;rw[<- List.range_eq_range']at n;rw[show kL L.length=(List.range L.length).map λi=>PV.int .i64 ((i:Nat):Int) from rfl,n];by_cases B:x∈L
 .obtain⟨j,W⟩:∃ j,iE x L 0=some j:=by
   cases h:iE x L 0 with
   | none=>exact absurd B (CX.1 h)
   | some j=>exact⟨j,rfl⟩
  rw[W,show dZ L x=L from aX B];simp;refine MR.eE (aA.Be (s:=900000) (g:=0) (sz:=19) (i:=16) rfl rfl) ?_;refine MR.eE (st1:=⟨[(0,i0 900000),(3,i0 3),(5,i4 true)],cZ t u r L K++[(3,[some ⟨3,[.p (enc x)]⟩]),(aO,[none])]⟩) (aA.cW [0,3,5] eF [((3,0),3)] ?_) ?_
  .simp[cZ,cS,bL,E,R];exact⟨o,C⟩
  refine MR.Dl (PF t u r L K x true) (AW Im L) (Md L.length) ?_;refine MR.dG ?_;simp;refine MR.eY (t:=false) rfl (λh=>by cases h) λ_=>?_;refine MR.pE ⟨rfl,.inr rfl,_,aA.refl _,[],rfl,?_,?_⟩
  .show dD []=AV.bM [];rfl
  simp[qA,cZ,cS,bL]
 .rw[CX.2 B,show dZ L x=L++[x] from bD B];simp;refine MR.eE (aA.Be (s:=900000) (g:=0) (sz:=19) (i:=16) rfl rfl) ?_;refine MR.eE (st1:=⟨[(0,i0 900000),(3,i0 3),(5,i4 false)],cZ t u r L K++[(3,[some ⟨3,[.p (enc x)]⟩]),(aO,[none])]⟩) (aA.cW [0,3,5] eF [((3,0),3)] ?_) ?_
  .simp[cZ,cS,bL,E,R];exact⟨o,C⟩
  refine MR.Dl (PF t u r L K x false) (AW Im L) (Md L.length) ?_;refine MR.dG ?_;simp;refine MR.eY (t:=true) rfl (λ_=>?_) λh=>by cases h
  refine MR.cK ?_;refine MR.yW rfl (by decide) ?_;have d:=QZ (x:=x) (v:=g6 L.length) (L:=L) (vs:=kL L.length) (by simp[kL]) B;have k:kL L.length++[g6 (L.length:Int)]=kL (L++[x]).length:=by simp[kL,B7]
  rw[k]at d;have z:=λσ (h:∀ g,σ 900002 g=(900002,g))=>O6 (σ := σ) h K;have A:=λσ=>Tg σ 12 K;have D:(ens L).all (sA [.i64,.i64,.i64])=true:=k8.2 (MA S);have G:=PK 900001 L x;have H:=Pv 3 L x;rw[show(List.range L.length).map (λi=>PV.int .i64 ((i:Nat):Int))=kL L.length from rfl];simp only[cZ,cS]at G H ⊢;generalize dH 900002 K=N at *
  generalize eK 12 K=M at *
  cases L with
  | nil =>
   simp[bL,show dH 900001 ([]:List aH)=.nil from rfl,show eK 3 ([]:List aH)=[] from rfl];refine RL (ks:=[]) ty.yJ ty.yK rfl rfl rfl rfl (Eo F) ?_;rw[show mQ [g6 x.p,g6 x.q,g6 x.f] (g6 0) [] (kL 0)=(ens [x],kL 1) from d];refine MR.cE ?_;simp;refine⟨.inr rfl,⟨[],[(900000,[some ⟨19,[bL t u r (dH 900001 [x]) N]⟩]),(900001,eK 3 [x]),(900002,M),(aO,[none])]⟩,FH [] [(900000,[(900000,0)]),(900001,[(900001,0),(34,0)]),(900002,[(900002,0)])] ?_ (λσ=>σ 900000 0=(900000,0) /\ σ 34 0=(900001,0)/\(∀ g,σ 900002 g=(900002,g))) ?_ ?_,[],rfl,rfl,?_⟩
   .simp[AE,EP,xK,fU,aO,CU]
   .simp[nS,uA,pQ,St.site,look]
   .rintro σ ⟨Y,I,J⟩;simp[sL,mJ,sub,iM,gC,St.get,look,St.site,I,z σ J,A σ,bL,dH,eK]<;>rfl
   .simp[qA,St.site,look,bL]
  | cons y l =>
   generalize b:y::l=L at *
   have m:L.length=l.length+1:=by rw[<- b];rfl
   have O:dH 900001 L=.own 900001 l.length 0 (l.length+1):=by rw[<- b];rfl
   have Q:eK 3 L=List.replicate l.length none++[some ⟨3,aK L⟩]:=by rw[<- b];rfl
   have U:(aK L).length=l.length+1:=by rw[vE,m]
   rw[O,Q];clear O Q b o n E;rw[m]at d G H k V ⊢;simp[bL];have X:kL (l.length+1)=kL (l.length+1):=rfl;refine RL (ks:=ens L) ty.yJ ty.yK rfl rfl rfl D (Eo F) ?_;rw[show mQ [g6 x.p,g6 x.q,g6 x.f] (g6 ((l.length:Int)+1)) (ens L) (kL (l.length+1))=(ens (L++[x]),kL (L++[x]).length) from by simpa using d];refine MR.cE ?_;simp[U];refine⟨by omega,by rw[m],?_⟩;rw[G,H];refine⟨.inr rfl,⟨[],[(900000,[some ⟨19,[bL t u r (.own 900001 (l.length+1) 0 (l.length+1+1)) N]⟩]),(900001,List.replicate (l.length+1) none++[some ⟨3,aK (L++[x])⟩]),(900002,M),(aO,[none])]⟩,FH [] [(900000,[(900000,0)]),(900001,[(900001,0),(34,0)]),(900002,[(900002,0)])] ?_ (λσ=>σ 900000 0=(900000,0) /\ σ 34 0=(900001,l.length+1)/\(∀ g,σ 900002 g=(900002,g))) ?_ ?_,[],rfl,rfl,?_⟩
   .simp[AE,EP,xK,fU,aO,CU]
   .simp[nS,uA,pQ,St.site,look]
   .rintro σ ⟨Y,I,J⟩;simp[sL,mJ,sub,iM,gC,St.get,look,St.site,I,z σ J,A σ,bL,P2,H3];rw[Jv,sI];rfl
   .simp[qA,St.site,look,bL]
structure kG (ns nu:Nat) (L:List aH):Prop where
 nd:L.Nodup
 b:∀ y∈L,(0<=y.p/\y.p<ns)/\(0<=y.q/\y.q<nu)/\0<=y.f/\y.f<=2
def kG.len{ns nu:Nat}{L:List aH}(h:kG ns nu L):L.length<=ns*nu*3:=by
 have o:(L.map λy=>(y.p.toNat*nu+y.q.toNat)*3+y.f.toNat).Nodup:=by
  refine Jr.2 (JD ?_ h.nd);intro x y i j d C;apply d;have:=h.b x i;have:=h.b y j
  have z:x.f.toNat=y.f.toNat:=by omega
  have k:x.p.toNat*nu+x.q.toNat=y.p.toNat*nu+y.q.toNat:=by omega
  have t:x.q.toNat<nu:=by omega
  have u:y.q.toNat<nu:=by omega
  have n:x.p.toNat=y.p.toNat:=by
   have l:(x.p.toNat*nu+x.q.toNat) / nu=x.p.toNat:=by rw[Nat.add_comm,Nat.add_mul_div_right _ _ (by omega),Ac t];omega
   have m:(y.p.toNat*nu+y.q.toNat) / nu=y.p.toNat:=by rw[Nat.add_comm,Nat.add_mul_div_right _ _ (by omega),Ac u];omega
   rw[<- l,<- m,k]
  have A:x.q.toNat=y.q.toNat:=by rw[n]at k;omega
  cases x;cases y;simp only[aH.mk.injEq];simp only at *
  omega
 have r:(L.map λy=>(y.p.toNat*nu+y.q.toNat)*3+y.f.toNat) ⊆ List.range (ns*nu*3):=by
  intro x i;obtain⟨y,j,rfl⟩:=cA.1 i;have B:=h.b y j;have s:y.p.toNat+1<=ns:=by omega
  have:=jU nu s;rw[sT]at this;rw[yF];omega
 have:=List.Nodup.length_le_of_subset o r;simpa using this
def kG.ok{ns nu:Nat}{L:List aH}(h:kG ns nu L)(f:ns<=30)(i:nu<=30):∀ y∈L,y.ok:=λy d=>by have:=h.b y d;exact⟨⟨by omega,by omega⟩,⟨by omega,by omega⟩,by omega,by omega⟩
def kG.add{ns nu:Nat}{L:List aH}(h:kG ns nu L){x:aH}(k:(0<=x.p/\x.p<ns)/\(0<=x.q/\x.q<nu)/\0<=x.f/\x.f<=2):kG ns nu (dZ L x):=by
 unfold dZ;split
 .exact h
 .rename_i hm;refine⟨GS.2 ⟨h.nd,by simp,λa j b i=>?_⟩,λy d=>?_⟩
  .simp only[iT]at i;subst i;exact λe=>hm (e ▸ j)
  .obtain d|d:=dN.1 d
   .exact h.b y d
   .simp only[iT]at d;subst d;exact k
def Hq(t u:eg)(k:Nat)(L:List aH)(j:Nat):List aH:=if t.ring.times (t.aM.getD k dT) (u.aM.getD j dT)=t.ring.zero then L else dZ L ⟨k,j,0⟩
def qR(t u:eg)(L:List aH)(k j:Nat):List aH:=(List.range j).foldl (Hq t u k) L
def jM(t u:eg)(L:List aH)(k:Nat):List aH:=(List.range k).foldl (λL k=>qR t u L k u.aM.length) L
def Lp(t u:eg)(L:List aH)(k j:Nat):qR t u L k (j+1)=Hq t u k (qR t u L k j) j:=by simp[qR,B7]
def Lo(t u:eg)(L:List aH)(k:Nat):jM t u L (k+1)=qR t u (jM t u L k) k u.aM.length:=by simp[jM,B7]
theorem Jh{t u:eg}{b d:Nat}{L:List aH}(h:kG b d L){k:Nat}(f:k<b):∀ {j:Nat},j<=d->kG b d (qR t u L k j)
 | 0,_=>h
 | j+1,i=>by
  rw[Lp];unfold Hq;split
  .exact Jh h f (by omega)
  .exact(Jh h f (by omega)).add ⟨⟨by simp,by simp;omega⟩,⟨by simp,by simp;omega⟩,by simp,by simp⟩
theorem Jg{t u:eg}{b d:Nat}{L:List aH}(h:kG b d L)(hu:u.aM.length<=d):∀ {k:Nat},k<=b->kG b d (jM t u L k)
 | 0,_=>h
 | k+1,f=>by rw[Lo];exact Jh (Jg h hu (by omega)) (by omega) hu
def jL(t u:eg)(r:Nat)(K:List aE)(L:List aH)(w:GW)(k j:Nat):St :=
 ⟨[(0,i0 900000),(2,f8 k),(3,i0 3),(10,hW t.aM),(11,f8 t.aM.length),(12,f8 k),(21,hW u.aM),(22,f8 u.aM.length),(23,f8 j)],
  cZ t u r L K++[(3,[some ⟨8,[.p (enc w)]⟩]),(aO,[none])]⟩
def Oz:GC:=.cond (.t 42) [42] (.cX [⟨some 43,.mv (.t 0),none⟩,⟨some 44,.mv (.t 2),none⟩,⟨some 45,.mv (.t 4),none⟩,⟨some 46,.build [f8 0,f8 0,f8 0] [(0,1,.t 44),(1,1,.t 45),(2,1,.c (f8 0))],none⟩,⟨some 47,.call 70 [.t 43,.t 46],none⟩] [[],[],[4],[44,45],[43,46,47]])
 (.js)
def UW:GC:=.cX [⟨some 48,.dI .add (.t 23) (.c (f8 1)),none⟩,⟨some 23,.mv (.t 48),none⟩] [[4,23],[48]]
def zaX(t u:eg)(r:Nat)(K:List aE)(L:List aH)(w:GW)(k j:Nat)(b:Bool):St :=
 ⟨[(42,i4 b),(0,i0 900000),(2,f8 k),(3,i0 3),(4,f8 j),(10,hW t.aM),(11,f8 t.aM.length),(12,f8 k),(21,hW u.aM),(22,f8 u.aM.length),(23,f8 j)],
  cZ t u r L K++[(3,[some ⟨8,[.p (enc w)]⟩]),(aO,[none])]⟩
theorem yhb{t u:eg}{r:Nat}{K:List aE}{L:List aH}(x:L.length<=100000)(C:∀ y∈L,y.ok){w:GW}{k j:Nat}(E:k<1000)(D:j<1000)(q:mL)(b:Bool)(R:Exit->St->Option FA->Prop)
  (hn:∀ s,aA s (jL t u r K (if b=true then dZ L ⟨k,j,0⟩else L) w k j)->R .normal s (some (gH q (some (dQ r (if b=true then dZ L ⟨k,j,0⟩else L)))))) :
  MR P 50 Oz.er (zaX t u r K L w k j b) (some (gH q (some (dQ r L)))) R:=by
 have B:aH.ok ⟨k,j,0⟩:=⟨⟨by simp,by simp;omega⟩,⟨by simp,by simp;omega⟩,by simp,by simp⟩;have f:=nO L K;have o:=f.sa;have m:=f.sb;have z:=f.l;have p:=f.a;unfold Oz;cases b with
 | false =>
  refine MR.eY (t:=false) rfl (λh=>by cases h) λ_=>MR.pE (hn _ ?_);refine aA.cW [0,2,3,10,11,12,21,22,23] eF [((3,0),3)] ?_;simp[jL,zaX,cZ,cS,bL,z,p];exact⟨o,m⟩
 | true =>
  refine MR.eY (t:=true) rfl (λ_=>?_) λh=>by cases h
  refine MR.mC (AU 4 [[],[],[4],[44,45]] ?_);have A:=TH (t:=t) (u:=u) (r:=r) (K:=K) x C B;simp only[cH]at hn;have d:=nO (dZ L ⟨k,j,0⟩) K;have i:=d.sa;have n:=d.l;simp[zaX];refine eC.cons (IP A (DO.gH q _ _) rfl ?_ ?_ rfl ?_ ?_)
  .simp
  .simp[qA,St.site,look,cZ,cS,bL]
  .show(true&&dS eF (cZ t u r L K)&&true&&dS eF (cZ t u r (dZ L ⟨k,j,0⟩) K))=true;rw[show dS eF (cZ t u r L K)=true from f.hp t u r,show dS eF (cZ t u r (dZ L ⟨k,j,0⟩) K)=true from d.hp t u r];rfl
  .refine eC.nil (hn _ ?_);refine aA.cW [0,2,3,10,11,12,21,22,23] eF [((3,0),3)] ?_;simp[D6,sO,jL,cZ,cS,bL,n,p];exact⟨i,m⟩
def yct{t u:eg}{M:cQ t.ring}(MP:dB M){n:Nat}(hn:n+n+1<=M.lim){J d:Nat}(h1:J<=30)(h2:d<=30)(hI:∀ w∈t.aM,w.aJ t.ring/\M.mb n w)(hU:∀ w∈u.aM,w.aJ t.ring/\M.mb n w)
  (ad:t.aM.length=J) (x:u.aM.length=d) {r:Nat} {K:List aE} {L:List aH} (hL:kG J d L) {k:Nat} (hk:k<J) (q:mL) {s:St} (i:aA s (jL t u r K L (t.aM.getD k dT) k 0)) :
  MR P 50 (GC.loop g.rx).er s (some (gH q (some (dQ r L)))) λD s B=>D=.exit 2/\B=some (gH q (some (dQ r (qR t u L k d))))/\aA s (jL t u r K (qR t u L k d) (t.aM.getD k dT) k d):=by
 refine MR.nL (I:=λm s B=>∃ j,j<=d/\m=d - j/\B=some (gH q (some (dQ r (qR t u L k j))))/\aA s (jL t u r K (qR t u L k j) (t.aM.getD k dT) k j)) d ⟨0,by omega,by omega,rfl,i⟩ ?_;rintro m s B ⟨j,hj,rfl,rfl,i⟩;refine MR.eE i ?_;have hT:=Jh (t:=t) (u:=u) hL hk hj;generalize O:(λ(D:Exit) (s:St) (B:Option FA)=>(D=.normal->∃ m,m<d - j/\∃ j,j<=d/\m=d - j/\B=some (gH q (some (dQ r (qR t u L k j))))/\aA s (jL t u r K (qR t u L k j) (t.aM.getD k dT) k j))/\(D ≠ .normal->D=.exit 2/\B=some (gH q (some (dQ r (qR t u L k d))))/\aA s (jL t u r K (qR t u L k d) (t.aM.getD k dT) k d)))=R;have Y:j<d->∀ s,aA s (jL t u r K (qR t u L k (j+1)) (t.aM.getD k dT) k (j+1))->R .normal s (some (gH q (some (dQ r (qR t u L k (j+1)))))):=λh s i=>by subst O;exact⟨λ_=>⟨d - (j+1),by omega,j+1,by omega,rfl,rfl,i⟩,λh=>absurd rfl h⟩
 have r2:j=d->∀ s,aA s (jL t u r K (qR t u L k j) (t.aM.getD k dT) k j)->R (.exit 2) s (some (gH q (some (dQ r (qR t u L k j))))):=λh s i=>by subst O;subst h;exact⟨λh=>(by cases h),λ_=>⟨rfl,rfl,i⟩⟩
 clear O i;have W:=Lp t u L k j;generalize qR t u L k j=o at *
 rw[W]at Y;have e1:=aZ j;have H:=nO o K;have E:=H.sa;have A:=H.sb;have hl:=H.l;have Q:=H.a;have V:t.aM.getD k dT∈t.aM:=by rw[eV,dO (by omega)];exact bU _
 obtain⟨ci,mi⟩:=hI _ V;by_cases z:j<d
 .have G:=Y z;clear Y r2;have f:j<u.aM.length:=by omega
  have S:u.aM.getD j dT=u.aM[j]:=by rw[eV,dO f];rfl
  obtain⟨N,mu⟩:=hU _ (bU f);unfold Hq at G;rw[S]at G;have X:=MP.rS (n:=n) (by omega) ci N mi mu;have hz:=Ey t.ring (t.ring.times (t.aM.getD k dT) u.aM[j]) ((MP.pr hn (Eu ci N) (M.times ci N mi mu)).mono (by omega));generalize t.aM.getD k dT=w at *
  have y:=yhb (t:=t) (u:=u) (r:=r) (K:=K) (L:=o) (dM hT.len (by have:=mT h1 h2;omega)) (hT.ok h1 h2) (w:=w) (k:=k) (j:=j) (by omega) (by omega) q;unfold g.rx;refine MR.dG ?_;simp[jL,cZ,cS,bL,x,z];refine MR.cK (MR.eY (t:=true) (by simp) (λ_=>MR.pE ⟨λ_=>?_,λh=>absurd rfl h⟩) (λh=>by cases h));refine MR.cK (MR.kR ?_);refine MR.dG ?_;simp;refine bK f ?_;refine MR.dG ?_;rw[show(GC.cond (.t 42) [42] _ .js)=Oz from rfl,show(GC.cX [⟨some 48,.dI .add (.t 23) (.c (f8 1)),none⟩,⟨some 23,.mv (.t 48),none⟩] [[4,23],[48]])=UW from rfl];simp;refine aW X ?_;simp;refine aW hz ?_;simp;generalize hb:(!decide (t.ring.times w u.aM[j]=t.ring.zero))=b;refine MR.eE (st1:=zaX t u r K o w k j b) (aA.cW [42,0,2,3,4,10,11,12,21,22,23] eF [((3,0),3)] ?_) (y b _ λs i=>⟨λ_=>?_,λh=>absurd rfl h⟩)
  .simp[zaX,cZ,cS,bL,hl,Q,x];exact⟨E,A⟩
  refine MR.eE i ?_;unfold UW;have he:(if b=true then dZ o ⟨k,j,0⟩else o)=(if t.ring.times w u.aM[j]=t.ring.zero then o else dZ o ⟨k,j,0⟩):=by subst hb;by_cases h:t.ring.times w u.aM[j]=t.ring.zero<;>simp[h]
  rw[he];generalize (if t.ring.times w u.aM[j]=t.ring.zero then o else dZ o ⟨k,j,0⟩)=L2 at *
  have C:=nO L2 K;have F:=C.sa;have U:=C.l;refine MR.cE ?_;simp[jL,cZ,cS,bL,e1];refine G _ (aA.cW [0,2,3,10,11,12,21,22,23] eF [((3,0),3)] ?_);simp[jL,cZ,cS,bL,U,Q];exact⟨F,A⟩
 .have G:=r2 (by omega);generalize t.aM.getD k dT=w at *
  unfold g.rx;refine MR.dG ?_;simp[jL,cZ,cS,bL,x,z];refine MR.cK (MR.eY (t:=false) (by simp) (λh=>(by cases h)) (λ_=>MR.uW ⟨λh=>(by cases h),λ_=>G _ ?_⟩));refine aA.cW [0,2,3,10,11,12,21,22,23] eF [((3,0),3)] ?_;simp[jL,cZ,cS,bL,hl,Q,x];exact⟨E,A⟩
def nG(t u:eg)(r:Nat)(K:List aE)(L:List aH)(k:Nat):St :=
 ⟨[(0,i0 900000),(10,hW t.aM),(11,f8 t.aM.length),(12,f8 k)],cZ t u r L K++[(aO,[none])]⟩
def ycs{t u:eg}{M:cQ t.ring}(X:dB M){n:Nat}(hn:n+n+1<=M.lim){b D:Nat}(h1:b<=30)(h2:D<=30)(hI:∀ w∈t.aM,w.aJ t.ring/\M.mb n w)(hU:∀ w∈u.aM,w.aJ t.ring/\M.mb n w)
  (f:t.aM.length=b) (z:u.aM.length=D) {r:Nat} {K:List aE} {L:List aH} (hL:kG b D L) (q:mL) {s:St} (d:aA s (nG t u r K L 0)) :
  MR P 50 (GC.loop g.ry).er s (some (gH q (some (dQ r L)))) λp s B=>p=.exit 0/\B=some (gH q (some (dQ r (jM t u L b))))/\aA s (nG t u r K (jM t u L b) b):=by
 refine MR.nL (I:=λm s B=>∃ k,k<=b/\m=b - k/\B=some (gH q (some (dQ r (jM t u L k))))/\aA s (nG t u r K (jM t u L k) k)) b ⟨0,by omega,by omega,rfl,d⟩ ?_;rintro m s B ⟨k,hk,rfl,rfl,d⟩;refine MR.eE d ?_;have hT:=Jg (t:=t) (u:=u) hL (by omega:u.aM.length<=D) hk;generalize G:(λ(p:Exit) (s:St) (B:Option FA)=>(p=.normal->∃ m,m<b - k/\∃ k,k<=b/\m=b - k/\B=some (gH q (some (dQ r (jM t u L k))))/\aA s (nG t u r K (jM t u L k) k))/\(p ≠ .normal->p=.exit 0/\B=some (gH q (some (dQ r (jM t u L b))))/\aA s (nG t u r K (jM t u L b) b)))=R;have Q:k<b->∀ s,aA s (nG t u r K (jM t u L (k+1)) (k+1))->R .normal s (some (gH q (some (dQ r (jM t u L (k+1)))))):=λh s d=>by subst G;exact⟨λ_=>⟨b - (k+1),by omega,k+1,by omega,rfl,rfl,d⟩,λh=>absurd rfl h⟩
 have V:k=b->∀ s,aA s (nG t u r K (jM t u L k) k)->R (.exit 0) s (some (gH q (some (dQ r (jM t u L k))))):=λh s d=>by subst G;subst h;exact⟨λh=>(by cases h),λ_=>⟨rfl,rfl,d⟩⟩
 clear G d;have O:=Lo t u L k;generalize jM t u L k=E at *
 rw[O,z]at Q;have Y:=aZ k;have F:=nO E K;have A:=F.sa;have o:=F.sb;have U:=F.l;have H:=F.a;by_cases i:k<b
 .have S:=Q i;clear Q V;have j:k<t.aM.length:=by omega
  have y:=λs (d:aA s (jL t u r K E (t.aM.getD k dT) k 0))=>yct X hn h1 h2 hI hU f z (r:=r) (K:=K) (L:=E) hT i q d;have J:t.aM.getD k dT=t.aM[k]:=by rw[eV,dO j];rfl
  rw[J]at y;generalize qR t u E k D=W at *
  have x:=nO W K;have C:=x.sa;have N:=x.l;unfold g.ry;refine MR.dG ?_;simp[nG,cZ,cS,bL,f,i];refine MR.cK (MR.eY (t:=true) (by simp) (λ_=>MR.pE ⟨λ_=>?_,λh=>absurd rfl h⟩) (λh=>by cases h));refine MR.cK (MR.kR ?_);refine MR.dG ?_;simp;refine bK j ?_;refine MR.dG ?_;simp;refine MR.kR (MR.mono (y _ ?_) ?_)
  .refine aA.cW [0,2,3,10,11,12,21,22,23] eF [((3,0),3)] ?_;simp[jL,cZ,cS,bL,U,H,f];exact⟨A,o⟩
  .rintro p s B ⟨rfl,rfl,d⟩;refine⟨λ_=>MR.eE d (MR.cE ?_),λh=>absurd rfl h⟩;simp[jL,cZ,cS,bL,Y];refine S _ (aA.cW [0,10,11,12] eF [] ?_);simp[nG,cZ,cS,bL,N,H];exact⟨C,o⟩
 .have S:=V (by omega);unfold g.ry;refine MR.dG ?_;simp[nG,cZ,cS,bL,f,i];refine MR.cK (MR.eY (t:=false) (by simp) (λh=>(by cases h)) (λ_=>MR.uW ⟨λh=>(by cases h),λ_=>S _ ?_⟩));refine aA.cW [0,10,11,12] eF [] ?_;simp[nG,cZ,cS,bL,U,H,f];exact⟨A,o⟩
def WW{t u:eg}{M:cQ t.ring}(p:dB M){n:Nat}(hn:n+n+1<=M.lim){b m:Nat}(x:b<=30)(y:m<=30)(z:∀ w∈t.aM,w.aJ t.ring/\M.mb n w)(C:∀ w∈u.aM,w.aJ t.ring/\M.mb n w)
  (h:t.aM.length=b) (i:u.aM.length=m) {r:Nat} {K:List aE} {L:List aH} (A:kG b m L) :
  kU P 65 [i0 900000] (cZ t u r L K) (some (dQ r L)) (.av (.bM [])) (cZ t u r (jM t u L b) K) (some (dQ r (jM t u L b))):=by
 have f:=nO L K;have j:=f.sa;have k:=f.sb;have E:=f.l;have D:=f.a;have d:=nO (jM t u L b) K;have o:=d.sa;have F:=d.l;refine kU.fZ c.na (by simp) rfl (by simp[cZ,cS,fU]) rfl ?_ λq=>?_
 .show(true&&dS eF (cZ t u r (jM t u L b) K))=true;rw[show dS eF (cZ t u r (jM t u L b) K)=true from d.hp t u r];rfl
 unfold g.na;refine MR.dG ?_;simp[tQ,cZ,cS,bL];refine MR.kR (MR.mono (ycs p hn x y z C h i (r:=r) (K:=K) A q (aA.cW [0,10,11,12] eF [] ?_)) ?_)
 .simp[nG,cZ,cS,bL,E,D];exact⟨j,k⟩
 rintro H s B ⟨rfl,rfl,G⟩;refine⟨rfl,.inr rfl,_,G,[],rfl,rfl,?_⟩;simp[qA,St.site,look,nG,cZ,cS,bL,aO]
def mA(x:aH)(L:List aH):Nat:=(iE x L 0).getD 0
def vP(s:Nat)(X:List aH × List aE)(m:eS):List aH × List aE:=(dZ X.1 m.t,X.2++[⟨s,m.i,m.o,mA m.t (dZ X.1 m.t),m.w⟩])
def iY(s:Nat)(X:List aH × List aE)(ms:List eS):List aH × List aE:=ms.foldl (vP s) X
def H4(L:List aH)(x:aH):x∈dZ L x:=by unfold dZ;split<;>simp_all
theorem KT{x:aH}{L:List aH}(h:x∈L):iE x L 0=some (mA x L):=by
 unfold mA;cases b:iE x L 0 with
 | none=>exact absurd h (CX.1 b)
 | some j=>rfl
def yab(s:Nat)(X:List aH × List aE)(ms:List eS)(m:eS):iY s X (ms++[m])=vP s (iY s X ms) m:=by simp[iY]
theorem SP(s:Nat)(ms:List eS):∀ (X:List aH × List aE),(iY s X ms).2.length=X.2.length+ms.length:=by
 induction ms with
 | nil=>intro X;rfl
 | cons m ms b =>
  intro X;have:=b (vP s X m);simp only[iY,C8]at this ⊢;rw[this];simp[vP];omega
theorem Ut{b d s:Nat}{ms:List eS}(i:∀ m∈ms,(0<=m.t.p/\m.t.p<b)/\(0<=m.t.q/\m.t.q<d)/\0<=m.t.f/\m.t.f<=2):∀ {X:List aH × List aE},kG b d X.1->kG b d (iY s X ms).1:=by
 induction ms with
 | nil=>intro X h;exact h
 | cons m ms k =>
  intro X h;exact k (λy j=>i y (by simp[j])) (X:=vP s X m) (h.add (i m (by simp)))
def iW(t u:eg)(r:Nat)(L:List aH)(K:List aE)(s:Nat)(ms:List eS)(j:Nat):St :=
 ⟨[(0,i0 900000),(3,f8 s),(37,.own 34 0 0 ms.length),(38,f8 ms.length),(39,f8 j)],cZ t u r L K++[(34,[some ⟨13,aK ms⟩]),(aO,[none])]⟩
def sZ(t u:eg)(r:Nat)(L:List aH)(K:List aE)(s:Nat)(ms:List eS)(j:Nat)(m:eS):St :=
 ⟨[(0,i0 900000),(3,f8 s),(6,i0 6),(37,.own 34 0 0 ms.length),(38,f8 ms.length),(39,f8 j)],cZ t u r L K++[(34,[some ⟨13,aK ms⟩]),(6,[some ⟨13,[.p (enc m)]⟩]),(aO,[none])]⟩
def yez{t u:eg}{r:Nat}{K:List aE}{L:List aH}(n:L.length<=100000)(A:∀ y∈L,y.ok){s:Nat}{ms:List eS}{j:Nat}{m:eS}(z:m.t.ok)(q:mL)(R:Exit->St->Option FA->Prop)
  (hn:∀ k,aA k (sZ t u r (dZ L m.t) K s ms j m)->R .normal k (some (gH q (some (dQ r (dZ L m.t)))))) :
  MR P 78 JV.er (sZ t u r L K s ms j m) (some (gH q (some (dQ r L)))) R:=by
 have d:=nO L K;have x:=d.sa;have i:=d.sb;have B:=d.l;have o:=d.a;have b:=nO (dZ L m.t) K;have f:=b.sa;have h:=b.l;have p:=TH (t:=t) (u:=u) (r:=r) (K:=K) n A z;unfold JV;refine MR.mC (AU 3 [[],[],[44]] ?_);simp[sZ,cZ,cS,bL];refine eC.cons (IP p (DO.gH q _ _) rfl ?_ ?_ rfl ?_ ?_)
 .simp
 .simp[qA,St.site,look,cZ,cS,bL]
 .show(true&&dS eF (cZ t u r L K)&&true&&dS eF (cZ t u r (dZ L m.t) K))=true;rw[show dS eF (cZ t u r L K)=true from d.hp t u r,show dS eF (cZ t u r (dZ L m.t) K)=true from b.hp t u r];rfl
 .refine eC.nil (hn _ ?_);refine aA.cW [0,3,6,37,38,39] eF [((34,0),34),((6,0),6)] ?_;simp[D6,sO,sZ,cZ,cS,bL,h,o];exact⟨f,i⟩
theorem ZT{t u:eg}{r:Nat}{K:List aE}{L:List aH}(ok:∀ y∈L,y.ok){s:Nat}{ms:List eS}{j:Nat}{m:eS}(hm:m.t∈L)(U:m.t.ok)(hK:K.length<=100000000)(q:mL) :
  MR P 78 JW.er (sZ t u r L K s ms j m) (some (gH q (some (dQ r L)))) λex s' B=>ex=.normal/\B=some (yY q (dQ r L))/\aA s' (iW t u r L (K++[⟨s,m.i,m.o,mA m.t L,m.w⟩]) s ms j):=by
 have G:=nO L K;have ad:=G.sa;have I:=G.sb;have hl:=G.l;have ha:=G.a;have k:=MQ m.t L 0;rw[<- List.range_eq_range',KT hm]at k;have d:oE [g6 m.t.p,g6 m.t.q,g6 m.t.f] (ens L) (kL L.length)=some (g6 (mA m.t L)):=k;clear k;have z:=λσ (h:∀ g,σ 900001 g=(900001,g))=>O6 (σ := σ) h L;have A:=λσ=>Tg σ 3 L;have W:=PK 900002 K (⟨s,m.i,m.o,mA m.t L,m.w⟩:aE);have X:=Pv 12 K (⟨s,m.i,m.o,mA m.t L,m.w⟩:aE);unfold JW;simp only[sZ,cZ,cS];refine MR.UU ?_;refine MR.UT (s:=900000) (g:=0) (sz:=19) (i:=16) rfl rfl ?_;refine MR.cE ?_;have D:aK [(⟨s,m.i,m.o,mA m.t L,m.w⟩:aE)]=[.p (.agg [g6 s,g6 m.i,g6 m.o,g6 (mA m.t L),.bool m.w.q.neg,.sl (ens m.w.q.num),.sl (ens m.w.q.den),g6 m.w.cost,.bool m.w.inf,.int .u64 m.w.set.toNat,.sl (ens m.w.aR),.sl (ens m.w.parts)])]:=rfl;unfold iW cZ cS;rw[W,X,sR,D];clear W X D;generalize dH 900001 L=V at *
 generalize eK 3 L=SA at *
 generalize hM:aK ms=Q;have x:∀ σ,gC σ Q=Q:=λσ=>by rw[<- hM,H3]
 have C:∀ n,va [V,.own 68 0 0 n]=none:=λn=>by cases V<;>rfl
 have E:∀ y∈ens L,sA [.i64,.i64,.i64] y=true:=MA ok;cases K with
 | nil =>
  simp[bL,dQ,d,C,show dH 900002 ([]:List aE)=.nil from rfl,show eK 12 ([]:List aE)=[] from rfl];refine⟨⟨Eo U,E⟩,?_⟩;refine(aA.Be (s:=900000) (g:=0) (sz:=19) (i:=16) rfl rfl).trans (FH [0,3,37,38,39] [(900000,[(900000,0)]),(900001,[(900001,0)]),(900002,[(900002,0),(68,0)]),(34,[(34,0)])] ?_ (λσ=>σ 900000 0=(900000,0) /\ σ 68 0=(900002,0)/\(∀ g,σ 900001 g=(900001,g)) /\ σ 34 0=(34,0)) ?_ ?_)
  .simp[AE,EP,xK,fU,aO,CU,St.setObj]
  .simp[nS,uA,pQ,St.site,look,St.setObj]
  .rintro σ ⟨J,M,N,O⟩;simp[sL,mJ,sub,iM,gC,St.get,look,St.site,St.setObj,aO,J,M,O,z σ N,A σ,x σ]
 | cons y l =>
  generalize b:y::l=K at *
  have F:K.length=l.length+1:=by rw[<- b];rfl
  have R:dH 900002 K=.own 900002 l.length 0 (l.length+1):=by rw[<- b];rfl
  have S:eK 12 K=List.replicate l.length none++[some ⟨12,aK K⟩]:=by rw[<- b];rfl
  have Y:(aK K).length=l.length+1:=by rw[vE,F]
  rw[R,S,F];have H:∀ σ,gC σ (aK K)=aK K:=λσ=>H3 σ K;clear R S b I;generalize aK K=KM at *
  simp[bL,dQ,d,C,Y];refine⟨⟨Eo U,E⟩,by omega,?_⟩;refine(aA.Be (s:=900000) (g:=0) (sz:=19) (i:=16) rfl rfl).trans (FH [0,3,37,38,39] [(900000,[(900000,0)]),(900001,[(900001,0)]),(900002,[(900002,0),(68,0)]),(34,[(34,0)])] ?_ (λσ=>σ 900000 0=(900000,0) /\ σ 68 0=(900002,l.length+1)/\(∀ g,σ 900001 g=(900001,g)) /\ σ 34 0=(34,0)) ?_ ?_)
  .simp[AE,EP,xK,fU,aO,CU,St.setObj]
  .simp[nS,uA,pQ,St.site,look,St.setObj]
  .rintro σ ⟨J,M,N,O⟩;simp[sL,mJ,sub,iM,gC,P2,St.get,look,St.site,St.setObj,aO,J,M,O,z σ N,A σ,x σ,H σ];rw[Jv,sI];rfl
def yfy(x:eS):(enc x).cN=true:=by have h:=HN x.w;obtain⟨i,o,t,w⟩:=x;cases w;simp[PV.cN,jR]at h ⊢;exact h
def XH(t u:eg)(r:Nat)(L:List aH)(K:List aE)(s:Nat)(ms:List eS)(j:Nat):BI (iW t u r L K s ms j)=true:=by have h:=OZ t u r L K;have b:rL (aK ms)=true:=Mc (AW yfy ms);unfold BI at h ⊢;simp only[List.all_nil,GN]at h;unfold iW;simp only[List.all_append];rw[h];simp[xJ,PV.cN,b,aO]
theorem Us:g.qq=.seq (.cX [⟨some 40,.dI .lss (.t 39) (.t 38),none⟩] []) (.seq (.cond (.t 40) [40] (.js) (.ext 2)) (.seq (.bX 3 (.seq NW (.seq JV JW))) NV)):=rfl
def yey{t u:eg}{ns nu:Nat}(W:ns<=30)(Y:nu<=30){r:Nat}{L:List aH}{K:List aE}(hL:kG ns nu L){s:Nat}{ms:List eS}(hm:∀ m∈ms,(0<=m.t.p/\m.t.p<ns)/\(0<=m.t.q/\m.t.q<nu)/\0<=m.t.f/\m.t.f<=2)
  (hs:s<=100000) (aq:ms.length<=1000000) (hK:K.length+ms.length<=100000000) (q:mL) {st:St} (k:aA st (iW t u r L K s ms 0)) :
  MR P 78 (GC.loop g.qq).er st (some (gH q (some (dQ r L)))) λC b B=>C=.exit 2/\B=some (gH q (some (dQ r (iY s (L,K) ms).1)))/\aA b (iW t u r (iY s (L,K) ms).1 (iY s (L,K) ms).2 s ms ms.length):=by
 refine MR.nL (I:=λn b B=>∃ j,j<=ms.length/\n=ms.length - j/\B=some (gH q (some (dQ r (iY s (L,K) (ms.take j)).1)))/\aA b (iW t u r (iY s (L,K) (ms.take j)).1 (iY s (L,K) (ms.take j)).2 s ms j)) ms.length ⟨0,by omega,by omega,rfl,k⟩ ?_;rintro n b B ⟨j,hj,rfl,rfl,k⟩;refine MR.eE k ?_;have V:=Ut (s:=s) (ms:=ms.take j) (λm hx=>hm m (iC hx)) (X:=(L,K)) hL;have E:=SP s (ms.take j) (L,K);rw[fY]at E;generalize hR:(λ(C:Exit) (b:St) (B:Option FA)=>(C=.normal->∃ n,n<ms.length - j/\∃ j,j<=ms.length/\n=ms.length - j/\B=some (gH q (some (dQ r (iY s (L,K) (ms.take j)).1)))/\aA b (iW t u r (iY s (L,K) (ms.take j)).1 (iY s (L,K) (ms.take j)).2 s ms j))/\(C ≠ .normal->C=.exit 2/\B=some (gH q (some (dQ r (iY s (L,K) ms).1)))/\aA b (iW t u r (iY s (L,K) ms).1 (iY s (L,K) ms).2 s ms ms.length)))=R;have r1:j<ms.length->∀ b,aA b (iW t u r (iY s (L,K) (ms.take (j+1))).1 (iY s (L,K) (ms.take (j+1))).2 s ms (j+1))->R .normal b (some (gH q (some (dQ r (iY s (L,K) (ms.take (j+1))).1)))):=λh b k=>by subst hR;exact⟨λ_=>⟨ms.length - (j+1),by omega,j+1,by omega,rfl,rfl,k⟩,λh=>absurd rfl h⟩
 have r2:j=ms.length->∀ b,aA b (iW t u r (iY s (L,K) (ms.take j)).1 (iY s (L,K) (ms.take j)).2 s ms j)->R (.exit 2) b (some (gH q (some (dQ r (iY s (L,K) (ms.take j)).1)))):=λh b k=>by subst hR;rw[h,kK]at k ⊢;exact⟨λh=>(by cases h),λ_=>⟨rfl,rfl,k⟩⟩
 clear hR k;have e1:=aZ j;have Q:∀ h:j<ms.length,iY s (L,K) (ms.take (j+1))=vP s (iY s (L,K) (ms.take j)) ms[j]:=λh=>by rw[ed h,yab]
 generalize iY s (L,K) (ms.take j)=X at *
 obtain⟨A,z⟩:=X;simp only at V E r2;have U:=nO A z;have J:=U.sa;have N:=U.sb;have hl:=U.l;have ha:=U.a;by_cases d:j<ms.length
 .have S:=r1 d;rw[Q d]at S;clear r1 r2 Q;simp only[vP]at S;obtain⟨b1,b2,b3⟩:=hm _ (bU d);have H:(ms[j]).t.ok:=⟨⟨by omega,by omega⟩,⟨by omega,by omega⟩,by omega,by omega⟩;have ad:=V.add ⟨b1,b2,b3⟩;have ap:=mT W Y;have G:=H4 A (ms[j]).t;have hg:(aK ms)[j]?=some (.p (enc ms[j])):=by simp[-gW,aK,ens,d]
  have al:(aK ms).length=ms.length:=vE ms;generalize ms[j]=m at *
  have hf:=yez (t:=t) (u:=u) (r:=r) (K:=z) (L:=A) (dM V.len (by omega)) (V.ok W Y) (s:=s) (ms:=ms) (j:=j) (m:=m) H q;have F:=ZT (t:=t) (u:=u) (r:=r) (K:=z) (L:=dZ A m.t) (ad.ok W Y) (s:=s) (ms:=ms) (j:=j) G H (by omega) q;generalize dZ A m.t=D at *
  rw[Us];refine MR.dG ?_;simp[iW,cZ,cS,bL,d];refine MR.cK (MR.eY (t:=true) (by simp) (λ_=>MR.pE ⟨λ_=>?_,λh=>absurd rfl h⟩) (λh=>by cases h));refine MR.cK (MR.kR ?_);refine MR.dG ?_;unfold NW;generalize y:aK ms=AM at *
  simp[al,d];rw[lM];refine⟨_,hg,?_⟩;simp;refine MR.cK (MR.eE (st1:=sZ t u r A z s ms j m) (aA.cW [0,3,6,37,38,39] eF [((34,0),34),((6,0),6)] ?_) (hf _ λb k=>⟨λ_=>MR.eE k (MR.mono F ?_),λh=>absurd rfl h⟩))
  .simp[sZ,cZ,cS,bL,hl,ha,y];exact⟨⟨J,N⟩,by rw[<- y];exact FQ _ _ _⟩
  .rintro C au B ⟨rfl,rfl,ao⟩;refine⟨λ_=>MR.eE ao (MR.Dl (XH t u r _ _ s ms j) (AW Im D) (Md D.length) (MR.cE ?_)),λh=>absurd rfl h⟩;have x:=nO D (z++[{ f:=s,i:=m.i,o:=m.o,t:=(mA m.t D),w:=m.w }]);generalize z++[({ f:=s,i:=m.i,o:=m.o,t:=(mA m.t D),w:=m.w }:aE)]=K2 at *
   have M:=x.sa;have O:=x.sb;have ag:=x.l;have af:=x.a;simp[NV,iW,cZ,cS,bL,e1];refine S _ (aA.cW [0,3,37,38,39] eF [((34,0),34)] ?_);simp[iW,cZ,cS,bL,ag,af,y];exact⟨⟨M,O⟩,by rw[<- y];exact FQ _ _ _⟩
 .have S:=r2 (by omega);rw[Us];refine MR.dG ?_;simp[iW,cZ,cS,bL,d];refine MR.cK (MR.eY (t:=false) (by simp) (λh=>(by cases h)) (λ_=>MR.uW ⟨λh=>(by cases h),λ_=>S _ ?_⟩));refine aA.cW [0,3,37,38,39] eF [((34,0),34)] ?_;simp[iW,cZ,cS,bL,hl,ha];exact⟨J,N⟩
def vY(t u:eg)(s:Nat)(X:List aH × List aE):List aH × List aE:=iY s X (bW eS.key (sK t u (X.1.getD s ⟨0,0,0⟩)))
def dL(t u:eg)(X:List aH × List aE):Nat->List aH × List aE
 | 0=>X
 | s+1=>if s<(dL t u X s).1.length then vY t u s (dL t u X s)else dL t u X s
theorem Qi{t u:eg}{X:List aH × List aE}{s:Nat}(h:(dL t u X s).1.length<=s):∀ m,dL t u X (s+m)=dL t u X s
 | 0=>rfl
 | m+1=>by have b:=Qi h m;show(if s+m<(dL t u X (s+m)).1.length then vY t u (s+m) (dL t u X (s+m))else dL t u X (s+m))=_;rw[b,bD (by omega)]
structure vq (t u:eg) (ns nu:Nat):Prop where
 t:∀ x∈t.aD,0<=x.t/\x.t<(ns:Int)
 u:∀ x∈u.aD,0<=x.t/\x.t<(nu:Int)
def Ud{t u:eg}{i j:Nat}(h:vq t u i j){a:aH}(k:(0<=a.p/\a.p<i)/\(0<=a.q/\a.q<j)/\0<=a.f/\a.f<=2):∀ m∈sK t u a,(0<=m.t.p/\m.t.p<i)/\(0<=m.t.q/\m.t.q<j)/\0<=m.t.f/\m.t.f<=2:=by
 intro m hm;have hm:=(kI.1 hm).1;unfold tL at hm;obtain hm|hm:=dN.1 hm
 .obtain⟨x,d,hm⟩:=kC.1 hm;have d:=h.t x (kI.1 d).1;unfold qP at hm;obtain hm|hm:=dN.1 hm
  .unfold wW at hm;split at hm
   .rw[iT]at hm;subst hm;exact⟨d,k.2.1,by simp,by simp⟩
   .cases hm
  .obtain⟨y,b,hm⟩:=kC.1 hm;have b:=h.u y (kI.1 b).1;unfold pZ at hm;split at hm
   .rw[iT]at hm;subst hm;exact⟨d,b,by simp,by simp⟩
   .cases hm
 .obtain⟨y,b,hm⟩:=kC.1 hm;have b:=h.u y (kI.1 b).1;unfold rD at hm;split at hm
  .rw[iT]at hm;subst hm;exact⟨k.1,b,by simp,by simp⟩
  .cases hm
def H0{α : Type}(key : α -> List Int)(l:List α):(bW key l).length=l.length:=(gB l).2.1
theorem FT{t u:eg}{i j B:Nat}(h:vq t u i j)(k:∀ a,(tL t u a).length<=B){X:List aH × List aE}(n:kG i j X.1)(l:X.2=[]):∀ s,kG i j (dL t u X s).1/\(dL t u X s).2.length<=s*B
 | 0=>⟨n,by simp[dL,l]⟩
 | s+1=>by
  obtain⟨f,x⟩:=FT h k n l s;simp only[dL];have r:s*B<=(s+1)*B:=jU _ (by omega);split
  .rename_i d;have o:(dL t u X s).1.getD s ⟨0,0,0⟩∈(dL t u X s).1:=by rw[eV,dO d];exact bU d
   unfold vY;generalize (dL t u X s).1.getD s ⟨0,0,0⟩=a at *
   refine⟨Ut (λm p=>Ud h (f.b _ o) m ((gB _).2.2 m |>.1 p)) f,?_⟩;rw[SP,H0,Ah];have:(sK t u a).length<=B:=dM (kB _ _) (k a);omega
  .exact⟨f,by omega⟩
def yc3(L:List aH)(x:aH):L.length<=(dZ L x).length:=by unfold dZ;split<;>simp
theorem ZS(s:Nat)(ms:List eS):∀ X:List aH × List aE,X.1.length<=(iY s X ms).1.length:=by
 induction ms with
 | nil=>intro X;exact dE _
 | cons m ms b=>intro X;exact dM (yc3 X.1 m.t) (b (vP s X m))
def iX(t u:eg)(r:Nat)(X:List aH × List aE)(s:Nat):St:=⟨[(0,i0 900000),(3,f8 s)],cZ t u r X.1 X.2++[(aO,[none])]⟩
theorem ZR:g.te=.seq (.seq Ff (.cond (.t 23) [23] (.js) (.ext 0))) (.seq (.bX 1 (.seq JZ (.seq JY (.seq JX (.bX 2 (.loop g.qq)))))) NX):=rfl
theorem ye1{t u:eg}{r s:Nat}{L:List aH}{K:List aE}(x:L.length<=4000)(hs:s<=L.length)(A:FA)(R:Exit->St->Option FA->Prop)
  (h:R (if s<L.length then .normal else .exit 0) (iX t u r (L,K) s) (some A)) :
  MR P 78 (GC.seq Ff (.cond (.t 23) [23] (.js) (.ext 0))).er (iX t u r (L,K) s) (some A) R:=by
 have m:=nO L K;have p:=m.sb;have z:=m.a;have B:∀ j,aA j (iX t u r (L,K) s)->R (if s<L.length then .normal else .exit 0) j (some A)->True:=λ_ _ _=>trivial;refine MR.cE ?_;cases L with
 | nil =>
  have k:s=0:=by simpa using hs
  subst k;simp[Ff,iX,cZ,cS,bL,show dH 900001 ([]:List aH)=.nil from rfl];exact h
 | cons y l =>
  generalize d:y::l=L at *
  have o:L.length=l.length+1:=by rw[<- d];rfl
  have n:dH 900001 L=.own 900001 l.length 0 (l.length+1):=by rw[<- d];rfl
  by_cases f:s<L.length
  .have b:(s:Int)<(l.length:Int)+1:=by omega
   have i:(l.length:Int)+1<=4096:=by omega
   rw[aX f]at h;simp[Ff,iX,cZ,cS,bL,n,b,i]at h ⊢;exact h
  .have b:¬ (s:Int)<(l.length:Int)+1:=by omega
   rw[bD f]at h;simp[Ff,iX,cZ,cS,bL,n,b]at h ⊢;exact h
def ye2{t u:eg}{r s:Nat}{L:List aH}{K:List aE}{d:List eS}(C:s<L.length)(hL:L.length<=4000)(N:d.length<=1000000)
  (j:kU P 66 [i0 900000,.p (enc (L.getD s ⟨0,0,0⟩))] (cZ t u r L K) none (.fr 13 (ens d)) (cZ t u r L K) none) (A:FA) (R:Exit->St->Option FA->Prop)
  (h:∀ st',aA st' (iW t u r L K s (bW eS.key d) 0)->MR P 78 (GC.bX 2 (.loop g.qq)).er st' (some A) R) :
  MR P 78 (GC.seq JZ (.seq JY (.seq JX (.bX 2 (.loop g.qq))))).er (iX t u r (L,K) s) (some A) R:=by
 have f:=nO L K;have n:=f.sa;have D:=f.sb;have U:=f.l;have O:=f.a;have Q:(aK L)[s]?=some (.p (enc (L.getD s ⟨0,0,0⟩))):=by simp[-gW,aK,ens,C]
 have z:=yem d N;have o:=H0 eS.key d;generalize bW eS.key d=S at *
 generalize L.getD s ⟨0,0,0⟩=a at *
 obtain⟨l,b⟩:∃ l:Nat,L.length=l+1:=⟨L.length - 1,by omega⟩;have H:dH 900001 L=.own 900001 l 0 (l+1):=by
  cases L with
  | nil=>simp at b
  | cons y E =>
   simp only[qH]at b;have:E.length=l:=by omega
   subst this;rfl
 have I:eK 3 L=List.replicate l none++[some ⟨3,aK L⟩]:=by
  cases L with
  | nil=>simp at b
  | cons y E =>
   simp only[qH]at b;have:E.length=l:=by omega
   subst this;rfl
 have J:(aK L).length=l+1:=by rw[vE,b]
 have F:(s:Int)<(l:Int)+1:=by omega
 have i:s<l+1:=by omega
 refine MR.dG ?_;have k:dS eF (cZ t u r L K)=true:=f.hp t u r;have m:vU eF (.fr 13 (ens d))=true:=by
  have M:=jF d 13 rfl;have h3:(ens d).length<=eL:=by simp[-gW,ens,eL];omega
  simp[vU];exact λx V=>by simpa using List.all_eq_true.1 M x V
 simp only[iX,cZ,cS,H,I,iW]at h j U n k ⊢;generalize aK L=G at *
 simp[JZ,bL,J,i];rw[lM];refine⟨_,Q,?_⟩;simp;refine yg7 j rfl ?_ rfl ?_ ?_
 .simp[qA,St.site,look,bL]
 .show(true&&dS eF _&&vU eF (.fr 13 (ens d))&&dS eF _)=true;rw[k,m];rfl
 simp[sO];refine MR.dG ?_;simp[JY];refine qV z (by simp) rfl rfl (by simp) (by simp) (by simp[o]) rfl (jF _ _ rfl) (cells_one Kz _) (by simp) ?_;simp;refine MR.dG ?_;simp[JX];refine h _ (aA.cW [0,3,37,38,39] eF [((34,0),34)] ?_);generalize List.replicate l none++[some (⟨3,G⟩:bI)]=W at *
 have B:∀ x∈eK 12 K,vT eF x=true:=D;generalize eK 12 K=X at *
 generalize dH 900002 K=Y at *
 simp[o,aO,bL,O];exact⟨n,B⟩
structure kH where
 m:eS
instance:Enc kH:=⟨λx=>.agg ([g6 x.m.t.p,g6 x.m.t.q,g6 x.m.t.f,g6 x.m.i,g6 x.m.o]++x.m.w.cl),13,by decide,λ_=>rfl⟩
@[simp] theorem yoe(x:kH):enc x=.agg [g6 x.m.t.p,g6 x.m.t.q,g6 x.m.t.f,g6 x.m.i,g6 x.m.o,.bool x.m.w.q.neg,.sl (ens x.m.w.q.num),.sl (ens x.m.w.q.den),g6 x.m.w.cost,.bool x.m.w.inf,.int .u64 x.m.w.set.toNat,.sl (ens x.m.w.aR),.sl (ens x.m.w.parts)]:=rfl
@[simp] theorem yk2:Enc.sz kH=13:=rfl
def Dq(a:aH)(x:aE):List kH:=(wW a x).map kH.mk
def sY(r:aC)(a:aH)(x y:aE):List kH:=if y.f=a.q/\x.o=y.i/\(0<x.o\/a.f=0)/\r.times x.w y.w≠r.zero then[⟨⟨x.i,y.o,⟨x.t,y.t,0⟩,r.times x.w y.w⟩⟩]else[]
def uR(a:aH)(y:aE):List kH:=if y.f=a.q/\y.i=0/\a.f≠1 then[⟨⟨0,y.o,⟨a.p,y.t,2⟩,y.w⟩⟩]else[]
def sJ(r:aC)(u:eg)(a:aH)(x:aE):List kH:=if x.f=a.p then Dq a x++u.aD.flatMap (sY r a x)else[]
def qT(t u:eg)(a:aH):List kH:=t.aD.flatMap (sJ t.ring u a)++u.aD.flatMap (uR a)
def KY(a:aH)(x:aE):(Dq a x).length<=1:=by unfold Dq;rw[ra];exact HM a x
def KZ(r:aC)(a:aH)(x y:aE):(sY r a x y).length<=1:=by unfold sY;split<;>simp
def yeu(a:aH)(y:aE):(uR a y).length<=1:=by unfold uR;split<;>simp
def x4(L:List aH)(b:List aH)(s:aH):List aH:=if s∈L\/s∈b then b else eJ aH.key b s
def uq(L:List aH)(all:List kH):List aH:=all.foldl (λb x=>x4 L b x.m.t) []
def oN(x:aH)(L:List aH):Int:=match iE x L 0 with
 | some j=>(j:Int)
 | none =>-1
def zJ(t u:eg)(s:Nat)(X:List aH × List aE):List aH × List aE :=
 (X.1++uq X.1 (qT t u (X.1.getD s ⟨0,0,0⟩)),X.2++(qT t u (X.1.getD s ⟨0,0,0⟩)).map λx=>⟨s,x.m.i,x.m.o,oN x.m.t (X.1++uq X.1 (qT t u (X.1.getD s ⟨0,0,0⟩))),x.m.w⟩)
def dF(t u:eg)(X:List aH × List aE):Nat->List aH × List aE
 | 0=>X
 | s+1=>if s<(dF t u X s).1.length then zJ t u s (dF t u X s)else dF t u X s
def Cn(t u:eg)(k:Nat)(L:List aH)(j:Nat):List aH:=if t.ring.times (t.aM.getD k dT) (u.aM.getD j dT)=t.ring.zero then L else L++[⟨k,j,0⟩]
def rC(t u:eg)(L:List aH)(k j:Nat):List aH:=(List.range j).foldl (Cn t u k) L
def lP(t u:eg)(b:Nat)(L:List aH)(k:Nat):List aH:=(List.range k).foldl (λL k=>rC t u L k b) L
def iZ(t u:eg)(a:aH)(k:Nat)(x:aE)(o:List kH)(j:Nat):St :=
 aB [(3,i0 3),(4,i0 4),(5,i0 5),(7,.own 7 0 0 o.length),(8,f8 k),(9,i0 9),(10,f8 j)]
  [(3,⟨8,[.p (enc t)]⟩),(4,⟨8,[.p (enc u)]⟩),(5,⟨3,[.p (enc a)]⟩),(7,⟨13,aK o⟩),(9,⟨12,[.p (enc x)]⟩)]
def nW(t u:eg)(a:aH)(o:List kH)(k:Nat):St :=
 aB [(3,i0 3),(4,i0 4),(5,i0 5),(7,.own 7 0 0 o.length),(8,f8 k)]
  [(3,⟨8,[.p (enc t)]⟩),(4,⟨8,[.p (enc u)]⟩),(5,⟨3,[.p (enc a)]⟩),(7,⟨13,aK o⟩)]
def nV(u:eg)(a:aH)(o:List kH)(k:Nat):St :=
 aB [(4,i0 4),(5,i0 5),(7,.own 7 0 0 o.length),(13,f8 k)]
  [(4,⟨8,[.p (enc u)]⟩),(5,⟨3,[.p (enc a)]⟩),(7,⟨13,aK o⟩)]
def yan{t u:eg}{M:cQ t.ring}(MP:dB M){n:Nat}(hn:n+n+1<=M.lim){a:aH}{k:Nat}{x:aE}(r:x.w.aJ t.ring/\M.mb n x.w)
  (hU:∀ y∈u.aD,y.w.aJ t.ring/\M.mb n y.w) (ad:u.aD.length<=1000) {o:List kH} (ho:o.length<=2000000) {Q:Exit->St->Prop} {ks:List Kt} {st:St} (hw:aA st (iZ t u a k x o 0))
  (hx:gA P 156 Q (fO 2 ks) 2 (iZ t u a k x (o++u.aD.flatMap (sY t.ring a x)) u.aD.length)):vL P 156 Q g.qt ks st:=by
 refine b6 (S:=λj:Nat=>iZ t u a k x (o++(u.aD.take j).flatMap (sY t.ring a x)) j) (I:=λj=>j<=u.aD.length) (m:=λj=>u.aD.length - j) 0 (by simpa using hw) (by omega) ?_;rintro j hj R N hr W;have G:=aZ j;have af:((u.aD.take j).flatMap (sY t.ring a x)).length<=1000:=by have:=vH (l:=u.aD.take j) (f:=sY t.ring a x) (B:=1) λy _=>KZ _ _ _ _;rw[List.length_take]at this;omega
 by_cases d:j<u.aD.length
 .have hs:=EK (sY t.ring a x) d;have p:∀ b,aA b (iZ t u a k x (o++(u.aD.take (j+1)).flatMap (sY t.ring a x)) (j+1))->R .normal b:=λb h=>N (j+1) b h (by omega) (by omega);rw[hs,<- List.append_assoc]at p;have ag:(o++(u.aD.take j).flatMap (sY t.ring a x)).length<=2001000:=by rw[gQ];omega
  generalize o++(u.aD.take j).flatMap (sY t.ring a x)=O at *
  obtain⟨L,X⟩:=hU _ (bU d);have V:=M.timesS (show n<=M.lim by omega) r.1 L r.2 X;have U:=MP.pr hn (Eu r.1 L) (M.times r.1 L r.2 X);have J:=Gm t.ring (t.ring.times x.w (u.aD[j]'d).w) (U.mono (by omega));simp[g.qt,iZ,aB,d];refine bK d ?_;generalize u.aD[j]'d=y at *
  refine aW V ?_;generalize s:t.ring.times x.w y.w=w at *
  simp;have C:¬ (y.f=a.q/\x.o=y.i/\(0<x.o\/a.f=0)/\t.ring.times x.w y.w≠t.ring.zero)->∀ b,aA b (iZ t u a k x O (j+1))->R .normal b:=λhc b h=>p b (by rw[show sY t.ring a x y=[] from bD hc,kY];exact h);have A:y.f=a.q->x.o=y.i->(0<x.o\/a.f=0)->w≠t.ring.zero->∀ b,aA b (iZ t u a k x (O++[⟨⟨x.i,y.o,⟨x.t,y.t,0⟩,w⟩⟩]) (j+1))->R .normal b:=λD E H F b h=>p b (by rw[show sY t.ring a x y=[⟨⟨x.i,y.o,⟨x.t,y.t,0⟩,w⟩⟩] from (aX ⟨D,E,H,by rw[s];exact F⟩).trans (by rw[s])];exact h);refine⟨λD=>⟨λE=>⟨λH=>?_,λH=>⟨λF=>?_,λF=>?_⟩⟩,λE=>?_⟩,λD=>?_⟩
  .refine aW J ?_;by_cases z:w=t.ring.zero
   .rw[decide_eq_true z];simp[G];refine C (λh=>h.2.2.2 (s.trans z)) _ (aA.to [3,4,5,7,8,9,10] [((3,0),3),((4,0),4),((5,0),5),((7,0),7),((9,0),9)] ?_);simp[iZ,aB]
   .rw[decide_eq_false z];simp[G,eL];refine⟨by omega,A D E (.inl H) z _ (aA.to [3,4,5,7,8,9,10] [((3,0),3),((4,0),4),((5,0),5),((114,0),7),((9,0),9)] ?_)⟩;simp[iZ,aB]
  .refine aW J ?_;by_cases z:w=t.ring.zero
   .rw[decide_eq_true z];simp[G];refine C (λh=>h.2.2.2 (s.trans z)) _ (aA.to [3,4,5,7,8,9,10] [((3,0),3),((4,0),4),((5,0),5),((7,0),7),((9,0),9)] ?_);simp[iZ,aB]
   .rw[decide_eq_false z];simp[G,eL];refine⟨by omega,A D E (.inr F) z _ (aA.to [3,4,5,7,8,9,10] [((3,0),3),((4,0),4),((5,0),5),((114,0),7),((9,0),9)] ?_)⟩;simp[iZ,aB]
  all_goals rw[G]
  all_goals refine C (λh=>?_) _ (aA.to [3,4,5,7,8,9,10] [((3,0),3),((4,0),4),((5,0),5),((7,0),7),((9,0),9)] ?_)
  all_goals first|(simp[iZ,aB];done)|(obtain⟨q1,q2,Y,q4⟩:=h;first|exact D q1|exact E q2|exact Y.elim (λq=>H q) (λq=>F q)|exact Y.elim (λq=>by omega) (λq=>F q))
 .have:j=u.aD.length:=by omega
  subst this;simp[g.qt,iZ,aB];refine W _ _ ?_;simpa[iZ,aB]using hx
def yam{t u:eg}{M:cQ t.ring}(X:dB M){n:Nat}(hn:n+n+1<=M.lim){a:aH}(Y:∀ x∈t.aD,x.w.aJ t.ring/\M.mb n x.w)(ad:t.aD.length<=1000)
  (hU:∀ y∈u.aD,y.w.aJ t.ring/\M.mb n y.w) (H:u.aD.length<=1000) {Q:Exit->St->Prop} {ks:List Kt} {st:St} (hw:aA st (nW t u a [] 0))
  (hx:gA P 156 Q (fO 0 ks) 0 (nW t u a (t.aD.flatMap (sJ t.ring u a)) t.aD.length)):vL P 156 Q g.rk ks st:=by
 refine b6 (S:=λk:Nat=>nW t u a ((t.aD.take k).flatMap (sJ t.ring u a)) k) (I:=λk=>k<=t.aD.length) (m:=λk=>t.aD.length - k) 0 (by simpa using hw) (by omega) ?_;rintro k hk R C hr L;have U:=aZ k;have ag:((t.aD.take k).flatMap (sJ t.ring u a)).length<=1001000:=by
  have:=vH (l:=t.aD.take k) (f:=sJ t.ring u a) (B:=1001) λx _=>by
   unfold sJ;split
   .have z:=KY a x;have D:=vH (l:=u.aD) (f:=sY t.ring a x) (B:=1) λy _=>KZ _ _ _ _;rw[gQ];omega
   .simp
  rw[fY]at this;have E:min k t.aD.length*1001<=1000*1001:=jU _ (by omega);omega
 by_cases r:k<t.aD.length
 .have W:=EK (sJ t.ring u a) r;have j:∀ b,aA b (nW t u a ((t.aD.take (k+1)).flatMap (sJ t.ring u a)) (k+1))->R .normal b:=λb h=>C (k+1) b h (by omega) (by omega);rw[W]at j;generalize (t.aD.take k).flatMap (sJ t.ring u a)=O at *
  have N:=Y _ (bU r);have af:=KY a t.aD[k];have G:Dq a t.aD[k]=if t.aD[k].o=0/\a.f≠2 then[⟨⟨t.aD[k].i,0,⟨t.aD[k].t,a.q,1⟩,t.aD[k].w⟩⟩]else[]:=by unfold Dq wW;split<;>rfl
  have d:∀ (F:t.aD[k].f=a.p) (o:List kH) (b:St),o=O++Dq a t.aD[k]->aA b (iZ t u a k t.aD[k] o 0)->vL P 156 R g.qt [.bX 2,.bX 1,.code (.cX [⟨some 20,.mv (.t 8),none⟩,⟨some 21,.dI .add (.t 20) (.c (f8 1)),none⟩,⟨some 8,.mv (.t 21),none⟩] [[8,9,10],[20],[21]])] b:=λF o b V J=>by
   refine yan X hn N hU H (by rw[V,gQ];omega) J ?_;have A:o++u.aD.flatMap (sY t.ring a t.aD[k])=O++sJ t.ring u a t.aD[k]:=by rw[V];unfold sJ;rw[aX F];simp
   rw[A];generalize O++sJ t.ring u a t.aD[k]=O2 at *
   simp[iZ,aB,U];refine j _ (aA.to [3,4,5,7,8] [((3,0),3),((4,0),4),((5,0),5),((7,0),7)] ?_);simp[nW,aB]
  have s:t.aD[k].f≠a.p->∀ b,aA b (nW t u a O (k+1))->R .normal b:=λF b h=>j b (by rw[show sJ t.ring u a t.aD[k]=[] from bD F,kY];exact h);clear C j W;simp[g.rk,nW,aB,r];refine bK r ?_;generalize t.aD[k]'r=x at *
  refine⟨λz=>⟨λD=>⟨λE=>?_,λE=>?_⟩,λD=>?_⟩,λz=>?_⟩
  .refine d z O _ (by rw[G,bD λh=>h.2 E,kY]) (aA.to [3,4,5,7,8,9,10] [((3,0),3),((4,0),4),((5,0),5),((7,0),7),((9,0),9)] ?_);simp[iZ,aB]
  .refine⟨by omega,d z (O++[⟨⟨x.i,0,⟨x.t,a.q,1⟩,x.w⟩⟩]) _ (by rw[G,aX ⟨D,E⟩]) (aA.to [3,4,5,7,8,9,10] [((3,0),3),((4,0),4),((5,0),5),((52,0),7),((9,0),9)] ?_)⟩;simp[iZ,aB]
  .refine d z O _ (by rw[G,bD λh=>D h.1,kY]) (aA.to [3,4,5,7,8,9,10] [((3,0),3),((4,0),4),((5,0),5),((7,0),7),((9,0),9)] ?_);simp[iZ,aB]
  .rw[U];refine s z _ (aA.to [3,4,5,7,8] [((3,0),3),((4,0),4),((5,0),5),((7,0),7)] ?_);simp[nW,aB]
 .have:k=t.aD.length:=by omega
  subst this;simp[g.rk,nW,aB];refine L _ _ ?_;simpa[nW,aB]using hx
def yal{u:eg}{a:aH}(D:u.aD.length<=1000){o:List kH}(N:o.length<=2000000){Q:Exit->St->Prop}{ks:List Kt}{st:St}(J:aA st (nV u a o 0))
  (L:gA P 156 Q (fO 4 ks) 4 (nV u a (o++u.aD.flatMap (uR a)) u.aD.length)):vL P 156 Q g.rl ks st:=by
 refine b6 (S:=λk:Nat=>nV u a (o++(u.aD.take k).flatMap (uR a)) k) (I:=λk=>k<=u.aD.length) (m:=λk=>u.aD.length - k) 0 (by simpa using J) (by omega) ?_;rintro k M R x U A;have C:=aZ k;have F:((u.aD.take k).flatMap (uR a)).length<=1000:=by have:=vH (l:=u.aD.take k) (f:=uR a) (B:=1) λy _=>yeu _ _;rw[List.length_take]at this;omega
 by_cases j:k<u.aD.length
 .have H:=EK (uR a) j;have d:∀ b,aA b (nV u a (o++(u.aD.take (k+1)).flatMap (uR a)) (k+1))->R .normal b:=λb h=>x (k+1) b h (by omega) (by omega);rw[H,<- List.append_assoc]at d;have G:(o++(u.aD.take k).flatMap (uR a)).length<=2001000:=by rw[gQ];omega
  generalize o++(u.aD.take k).flatMap (uR a)=O at *
  simp[g.rl,nV,aB,j];refine bK j ?_;generalize u.aD[k]'j=y at *
  have z:¬ (y.f=a.q/\y.i=0/\a.f≠1)->∀ b,aA b (nV u a O (k+1))->R .normal b:=λE b h=>d b (by rw[show uR a y=[] from bD E,kY];exact h);refine⟨λn=>⟨λr=>⟨λs=>?_,λs=>?_⟩,λr=>?_⟩,λn=>?_⟩;rotate_left
  .rw[show uR a y=[⟨⟨0,y.o,⟨a.p,y.t,2⟩,y.w⟩⟩] from aX ⟨n,r,s⟩]at d;rw[C];refine⟨by omega,d _ (aA.to [4,5,7,13] [((4,0),4),((5,0),5),((154,0),7)] ?_)⟩;simp[nV,aB]
  all_goals rw[C]
  all_goals refine z (λh=>?_) _ (aA.to [4,5,7,13] [((4,0),4),((5,0),5),((7,0),7)] ?_)
  all_goals first|(simp[nV,aB];done)|(first|exact n h.1|exact r h.2.1|exact h.2.2 s)
 .have:k=u.aD.length:=by omega
  subst this;simp[g.rl,nV,aB];refine A _ _ ?_;simpa[nV,aB]using L
def yak{t u:eg}{M:cQ t.ring}(h:dB M){n:Nat}(hn:n+n+1<=M.lim)(a:aH)(i:∀ x∈t.aD,x.w.aJ t.ring/\M.mb n x.w)(d:t.aD.length<=1000)
  (j:∀ y∈u.aD,y.w.aJ t.ring/\M.mb n y.w) (b:u.aD.length<=1000):zS 33 [enc t,enc u,enc a] (.sl (ens (qT t u a))):=by
 have k:(t.aD.flatMap (sJ t.ring u a)).length<=1001000:=by
  have:=vH (l:=t.aD) (f:=sJ t.ring u a) (B:=1001) λx _=>by
   unfold sJ;split
   .have p:=KY a x;have r:=vH (l:=u.aD) (f:=sY t.ring a x) (B:=1) λy _=>KZ _ _ _ _;rw[gQ];omega
   .simp
  have s:t.aD.length*1001<=1000*1001:=jU _ (by omega);omega
 refine Sp.vz c.mh λ_=>?_;simp[g.mh];refine yam h hn i d j b (t:=t) (u:=u) (a:=a) (aA.nl 7 77 13 rfl (aA.to [3,4,5,7,8] [((3,0),3),((4,0),4),((5,0),5),((77,0),7)] ?_)) ?_
 .simp[nW,aB]
 unfold qT;generalize t.aD.flatMap (sJ t.ring u a)=O at *
 simp[nW,aB];refine yal (u:=u) (a:=a) (o:=O) b (by omega) (aA.to [4,5,7,13] [((4,0),4),((5,0),5),((7,0),7)] ?_) ?_
 .simp[nV,aB]
 generalize O++u.aD.flatMap (uR a)=m at *
 simp[nV,aB]
theorem Sj{x:aH}:∀ {L:List aH} {k i:Nat} (h:k<L.length),(∀ j (h:j<L.length),j<k->L[j]≠x)->L[k]=x->iE x L i=some (i+k)
 | y::L,0,i,_,_,h=>by
  simp only[Nt]at h;simp[iE,h]
 | y::L,k+1,i,m,d,h=>by
  have b:=d 0 (by simp) (by omega);simp only[List.getElem_cons_zero]at b;have:=Sj (x:=x) (L:=L) (k:=k) (i:=i+1) (by simpa using m) (λj f l=>by have:=d (j+1) (by simpa using f) (by omega);rw[List.getElem_cons_succ]at this;exact this) (by simpa using h);simp only[iE,if_neg (Ne.symm b),this]
  congr 1;omega
def Fh(L:List aH)(x:aH)(k:Nat):St:=aB [(0,hW L),(3,i0 3),(5,f8 k)] [(3,⟨3,[.p (enc x)]⟩)]
def Lz(L:List aH)(x:aH)(M:L.length<=1000000):zS 35 [.sl (ens L),enc x] (g6 (oN x L)):=by
 refine Sp.vz c.jf λ_=>?_;simp[g.jf];refine b6 (S:=λk:Nat=>Fh L x k) (I:=λk=>k<=L.length/\∀ j (h:j<L.length),j<k->L[j]≠x) (m:=λk=>L.length - k) 0 (aA.to [0,3,5] [((3,0),3)] (by simp[Fh,aB])) ⟨by omega,λj _ h=>by omega⟩ ?_;rintro k ⟨N,r⟩ R s E F;have z:=aZ k;by_cases l:k<L.length
 .have f:L[k]≠x->∀ d,aA d (Fh L x (k+1))->R .normal d:=λt d h=>s (k+1) d h ⟨by omega,λj n p=>by
   obtain h|rfl:=Nat.lt_or_eq_of_le (Nat.le_of_lt_succ p)
   .exact r j n h
   .exact t⟩ (by omega)
  have i:L[k]=x->oN x L=(k:Int):=λD=>by unfold oN;rw[Sj l r D];simp
  simp[g.tj,Fh,aB,l];refine bK l ?_;generalize L[k]=y at *
  obtain⟨a,b,c⟩:=x;obtain⟨G,H,J⟩:=y;simp only[aH.mk.injEq,ne_eq]at f i;simp;refine⟨λA B C=>E _ ?_,λh=>?_⟩
  .simp[i ⟨A,B,C⟩]
  .rw[z];refine f (λo=>h o.1 o.2.1 o.2.2) _ (aA.to [0,3,5] [((3,0),3)] ?_);simp[Fh,aB]
 .have:k=L.length:=by omega
  subst this;have u:oN x L = -1:=by
   unfold oN;rw[CX.2 λh=>by
    obtain⟨j,n,e⟩:=Jt h;exact r j n n e]
  simp[g.tj,Fh,aB];refine F _ _ ?_;simp[u]
def WV(x y:aH):zS 85 [enc x,enc y] (.bool (decide (x.key<y.key))):=by
 obtain⟨a,b,d⟩:=x;obtain⟨i,j,k⟩:=y;refine Sp.vz c.nk λ_=>?_;simp[g.nk,aH.key];refine⟨λf=>⟨λh=>?_,λh=>?_⟩,λf=>?_⟩
 .simp[GJ,f,h]
 .simp[GJ,f,h]
 .simp[GJ,f]
theorem Tl{α : Type}{key : α -> List Int}{x : α}:∀ {O:List α} {i:Nat},i<=O.length->(∀ j (h:j<O.length),j<i->key O[j]<key x)->(∀ (h:i<O.length),key x<key O[i])->eJ key O x=O.take i++x::O.drop i
 | [],i,_,_,_=>by simp[eJ]
 | z::O,0,_,_,h=>by
  have:=h (by simp);simp only[Nt]at this;simp[eJ,this]
 | z::O,i+1,k,d,f=>by have b:=d 0 (by simp) (by omega);simp only[List.getElem_cons_zero]at b;have n:¬ key x<key z:=λh=>List.lt_irrefl _ (List.lt_trans h b);have o:=Tl (key:=key) (x:=x) (O:=O) (i:=i) (by simpa using k) (λj l m=>by have:=d (j+1) (by simpa using l) (by omega);rw[List.getElem_cons_succ]at this;exact this) (λh=>by have:=f (by simpa using h);rw[List.getElem_cons_succ]at this;exact this);simp only[eJ,if_neg n,o,List.take_succ_cons,List.drop_succ_cons,List.cons_append]
theorem SU{x:aH}{L:List aH}:(0<=oN x L) ↔ x∈L:=by
 unfold oN;cases h:iE x L 0 with
 | none=>simp only;exact⟨λh=>(by omega),λb=>absurd b (CX.1 h)⟩
 | some j=>simp only;exact⟨λ_=>GK λb=>(by rw[CX.2 b]at h;cases h),λ_=>(by omega)⟩
def yfx(L b:List aH)(s:aH):(x4 L b s).length<=b.length+1:=by
 unfold x4;split
 .omega
 .rw[Tn];omega
def wV(L:List aH)(all:List kH)(k:Nat):List aH:=uq L (all.take k)
theorem O0(L:List aH){all:List kH}{k:Nat}(h:k<all.length):wV L all (k+1)=x4 L (wV L all k) all[k].m.t:=by unfold wV uq;rw[ed h,yr3];rfl
theorem Sl(L:List aH){all:List kH}:∀ {k:Nat},k<=all.length->(wV L all k).length<=k
 | 0,_=>by simp[wV,uq]
 | k+1,h=>by rw[O0 L (by omega)];have:=yfx L (wV L all k) all[k].m.t;have:=Sl L (all:=all) (k:=k) (by omega);omega
def qO(L:List aH)(all:List kH)(O:List aH)(k:Nat):St:=aB [(0,hW L),(1,hW all),(5,.own 5 0 0 O.length),(6,f8 k)] [(5,⟨3,aK O⟩)]
def yT(L:List aH)(all:List kH)(O:List aH)(k:Nat)(x:aH)(i:Nat):St:=aB [(0,hW L),(1,hW all),(5,.own 5 0 0 O.length),(6,f8 k),(7,i0 7),(8,f8 i)] [(5,⟨3,aK O⟩),(7,⟨3,[.p (enc x)]⟩)]
def yf0(L:List aH)(all:List kH)(X:L.length<=1000000)(hA:all.length<=1000000)(hs:∀ k,k<=all.length->eH aH.key (wV L all k)) :
  Sp P 34 [.sl (ens L),.sl (ens all)] (.fresh 3 (ens (uq L all))):=by
 refine Sp.vz c.mj λ_=>?_;simp[g.mj]
 refine b6 (S:=λk:Nat=>qO L all (wV L all k) k) (I:=λk=>k<=all.length) (m:=λk=>all.length - k) 0
  (aA.nl 5 77 3 rfl (aA.to [0,1,5,6] [((77,0),5)] (by simp[qO,aB,wV,uq]))) (by omega) ?_
 rintro k Q R J hr hx;have B:=aZ k;by_cases o:k<all.length
 .have b:∀ d,aA d (qO L all (wV L all (k+1)) (k+1))->R .normal d:=λd h=>J (k+1) d h (by omega) (by omega);rw[O0 L o]at b;have ag:=hs k Q;have ad:=Sl L Q;generalize wV L all k=O at *
  have p1:=Lz L all[k].m.t X;have p2:=Lz O all[k].m.t (by omega);have U:=SU (x:=all[k].m.t) (L:=L);have V:=SU (x:=all[k].m.t) (L:=O);simp[g.ti,qO,aB,o];refine bK o ?_;generalize all[k]'o=y at *
  obtain⟨⟨mi,mo,x,mw⟩⟩:=y;simp only at *
  have f:x∈L\/x∈O->∀ d,aA d (qO L all O (k+1))->R .normal d:=λY d h=>b d (by rw[show x4 L O x=O from aX Y];exact h);refine aW p1 ?_;by_cases p:x∈L
  .simp[U.2 p,B];refine f (.inl p) _ (aA.to [0,1,5,6] [((5,0),5)] ?_);simp[qO,aB]
  have q3:oN x L<0:=by have:=mt U.1 p;omega
  have q5:¬ 0<=oN x L:=by omega
  simp[q5];refine aW p2 ?_;by_cases l:x∈O
  .simp[V.2 l,B];refine f (.inr l) _ (aA.to [0,1,5,6] [((5,0),5)] ?_);simp[qO,aB]
  have q4:oN x O<0:=by have:=mt V.1 l;omega
  have q6:¬ 0<=oN x O:=by omega
  simp[q6];rw[show x4 L O x=eJ aH.key O x from bD λh=>h.elim p l]at b;refine b6 (S:=λi:Nat=>yT L all O k x i) (I:=λi=>i<=O.length/\∀ j (h:j<O.length),j<i->O[j].key<x.key) (m:=λi=>O.length - i) 0 (aA.to [0,1,5,6,7,8] [((5,0),5),((7,0),7)] (by simp[yT,aB])) ⟨by omega,λj _ h=>by omega⟩ ?_;rintro i ⟨G,u⟩ R2 M af A;have W:=aZ i;have r:(∀ h:i<O.length,¬ O[i].key<x.key)->eJ aH.key O x=O.take i++x::O.drop i:=λE=>Tl G u λh=>by
   obtain s|s|s:=BO x.key O[i].key
   .exact s
   .exact absurd (K7.2 s ▸ bU h) l
   .exact absurd s (E h)
  by_cases F:i<O.length
  .have n:=WV O[i] x;simp[g.th,yT,aB,F];refine bK F ?_;by_cases C:O[i].key<x.key
   .rw[decide_eq_true C]at n;refine aW n ?_;simp[W];refine M (i+1) _ (aA.to [0,1,5,6,7,8] [((5,0),5),((7,0),7)] (by simp[yT,aB])) ⟨by omega,λj hj H=>?_⟩ (by omega);obtain h|rfl:=Nat.lt_or_eq_of_le (Nat.le_of_lt_succ H)
    .exact u j hj h
    .exact C
   .rw[decide_eq_false C]at n;refine aW n ?_;have D:=r λ_=>C;rw[D]at b;have hm:min i O.length=i:=by omega
    simp;refine A _ _ ?_;simp[B,eL,hm];have z:i+1+(O.length - i)=O.length+1:=by omega
    have N:(O.drop i).take (O.length - i)=O.drop i:=eZ (by simp);refine⟨by omega,⟨by omega,by omega⟩,by omega,by omega,⟨by omega,by omega⟩,?_⟩;refine b _ (aA.to [0,1,5,6] [((54,0),5)] ?_);rw[N];simp[qO,aB,z];omega
  .have:i=O.length:=by omega
   subst this;have D:=r λh=>absurd h F;rw[D]at b;simp[g.th,yT,aB];refine A _ _ ?_;simp[B,eL];refine⟨by omega,by omega,b _ (aA.to [0,1,5,6] [((54,0),5)] ?_)⟩;simp[qO,aB]
 .have:k=all.length:=by omega
  subst this;have he:wV L all all.length=uq L all:=by unfold wV;rw[eZ (dE _)]
  rw[he];simp[g.ti,qO,aB];refine hx _ _ ?_;simp
inductive kq (nx:List (List Int)) (m:List Bool):Nat->Prop
 | base {i:Nat}:m[i]?=some true->kq nx m i
 | step {i j:Nat} {l:List Int}:kq nx m i->nx[i]?=some l->(j:Int)∈l->kq nx m j
open Classical in
def iN(nx:List (List Int))(m:List Bool):List Bool:=(List.range m.length).map λi=>decide (kq nx m i)
structure tH (nx:List (List Int)) (m0:List Bool) (N:Nat) (m:List Bool) (o:List Int):Prop where
 ml:m.length=N
 Hd:m0.length=N
 nl:nx.length=N
 sub:∀ i:Nat,m0[i]?=some true->m[i]?=some true
 Fg:∀ i:Nat,m[i]?=some true->kq nx m0 i
 op:∀ x∈o,∃ i:Nat,x=i/\m[i]?=some true
 cl:∀ (i:Nat) (l:List Int),m[i]?=some true->(i:Int)∉o->nx[i]?=some l->∀ j:Nat,(j:Int)∈l->m[j]?=some true
 sz:2*sM m+o.length<=3*N
structure oB (nx:List (List Int)) (m0:List Bool) (N S:Nat) (i:Nat) (l:List Int) (k:Nat) (m:List Bool) (o:List Int):Prop where
 ml:m.length=N
 Hd:m0.length=N
 nl:nx.length=N
 ni:nx[i]?=some l
 ri:kq nx m0 i
 sub:∀ i:Nat,m0[i]?=some true->m[i]?=some true
 Fg:∀ i:Nat,m[i]?=some true->kq nx m0 i
 op:∀ x∈o,∃ i:Nat,x=i/\m[i]?=some true
 cl:∀ (i':Nat) (l':List Int),i'≠i->m[i']?=some true->(i':Int)∉o->nx[i']?=some l'->∀ j:Nat,(j:Int)∈l'->m[j]?=some true
 hd:∀ j:Nat,(j:Int)∈l.take k->m[j]?=some true
 sz:2*sM m+o.length+1<=S
 hS:S<=3*N
def tH.pop{nx:List (List Int)}{m0 m:List Bool}{N:Nat}{o:List Int}{x:Int}(h:tH nx m0 N m (o++[x])):∃ (i:Nat) (l:List Int),x=i/\i<N/\nx[i]?=some l/\oB nx m0 N (2*sM m+o.length+1) i l 0 m o:=by
 obtain⟨i,hi,hm⟩:=h.op x (by simp);have d:i<m.length:=(iU.1 hm).1;have b:i<nx.length:=by rw[h.nl,<- h.ml];exact d
 refine⟨i,nx[i],hi,by rw[<- h.ml];exact d,dO b,h.ml,h.Hd,h.nl,dO b,h.Fg i hm,h.sub,h.Fg,λy s=>h.op y (by simp[s]),λi' l' r f n k=>h.cl i' l' f (λb=>?_) k,λj p=>by simp at p,dE _,by have:=h.sz;simp at this;omega⟩;obtain b|b:=dN.1 b
 .exact n b
 .simp only[iT]at b;subst hi;omega
def oB.done{nx:List (List Int)}{m0 m:List Bool}{N S i:Nat}{l:List Int}{k:Nat}{o:List Int}(h:oB nx m0 N S i l k m o)(n:l.length<=k):tH nx m0 N m o:=by
 refine⟨h.ml,h.Hd,h.nl,h.sub,h.Fg,h.op,λi' l' hm b hn j f=>?_,by have:=h.sz;have:=h.hS;omega⟩;by_cases d:i'=i
 .subst d;rw[h.ni]at hn;cases hn;exact h.hd j (by rwa[eZ n])
 .exact h.cl i' l' d hm b hn j f
def oB.skip{nx:List (List Int)}{m0 m:List Bool}{N S i:Nat}{l:List Int}{k:Nat}{o:List Int}{j:Nat}(h:oB nx m0 N S i l k m o)(r:l[k]?=some (j:Int))(p:m[j]?=some true):oB nx m0 N S i l (k+1) m o:=by
 refine { h with hd:=λn b=>?_ };obtain⟨d,f⟩:=iU.1 r;rw[ed d,f]at b;obtain b|b:=dN.1 b
 .exact h.hd n b
 .simp only[iT]at b;have:n=j:=by omega
  subst this;exact p
def oB.push{nx:List (List Int)}{m0 m:List Bool}{N S i:Nat}{l:List Int}{k:Nat}{o:List Int}{j:Nat}(h:oB nx m0 N S i l k m o)(G:l[k]?=some (j:Int))(C:m[j]?=some false):oB nx m0 N S i l (k+1) (m.set j true) (o++[(j:Int)]):=by
 obtain⟨s,t⟩:=iU.1 G;obtain⟨A,F⟩:=iU.1 C;have u:(j:Int)∈l:=by rw[<- t];exact bU s
 have b:∀ q:Nat,m[q]?=some true->(m.set j true)[q]?=some true:=λq hq=>by
  rw[vK];split
  .simp
  .exact hq
 have n:(m.set j true)[j]?=some true:=by simp[A]
 have f:∀ q:Nat,(m.set j true)[q]?=some true->q=j\/m[q]?=some true:=λq hq=>by
  rw[vK]at hq;split at hq
  .rename_i h;exact .inl h.symm
  .exact .inr hq
 refine⟨by rw[List.length_set];exact h.ml,h.Hd,h.nl,h.ni,h.ri,λq hq=>b q (h.sub q hq),λq hq=>?_,λx p=>?_,λi' l' B hm y hn r d=>?_,λr d=>?_,?_,h.hS⟩
 .obtain rfl|hq:=f q hq
  .exact .step h.ri h.ni u
  .exact h.Fg q hq
 .obtain p|p:=dN.1 p
  .obtain⟨q,D,E⟩:=h.op x p;exact⟨q,D,b q E⟩
  .simp only[iT]at p;exact⟨j,p,n⟩
 .obtain rfl|hm:=f i' hm
  .exact absurd (List.mem_append_right _ (iT.2 rfl)) y
  .exact b r (h.cl i' l' B hm (λz=>y (Cf _ z)) hn r d)
 .rw[ed s,t]at d;obtain d|d:=dN.1 d
  .exact b r (h.hd r d)
  .simp only[iT]at d;have:r=j:=by omega
   subst this;exact n
 .have H:=Ks m j (by rw[eV,C];rfl);have:=h.sz;simp only[gQ,Jq];omega
open Classical in
theorem tH.fin{nx:List (List Int)}{m0 m:List Bool}{N:Nat}(h:tH nx m0 N m []):m=iN nx m0:=by
 have k:∀ i:Nat,kq nx m0 i->m[i]?=some true:=λi hi=>by
  induction hi with
  | base hm=>exact h.sub _ hm
  | step _ hn j l=>exact h.cl _ _ l (by simp) hn _ j
 apply Bb
 .simp[iN,h.ml,h.Hd]
 .intro i d n;simp only[iN,Ce,GI];by_cases b:kq nx m0 i
  .rw[decide_eq_true b];have:=k i b;rw[dO d]at this;exact NG this
  .rw[decide_eq_false b];cases f:m[i]with
   | false=>rfl
   | true=>exact absurd (h.Fg i (by rw[dO d,f])) b
def lW(m:List Bool)(k:Nat):List Int:=((List.range k).filter λi=>m.getD i false).map λ(i:Nat)=>(i:Int)
theorem M6:∀ (m:List Bool),sM m<=m.length
 | []=>dE _
 | b::l=>by have:=M6 l;cases b<;>simp[sM]<;>omega
def YY{nx:List (List Int)}{m:List Bool}{N:Nat}(d:m.length=N)(p:nx.length=N):tH nx m N m (lW m N):=by
 refine⟨d,d,p,λi h=>h,λi h=>.base h,λx t=>?_,λi l o j=>?_,?_⟩
 .obtain⟨i,s,rfl⟩:=cA.1 t;obtain⟨k,n⟩:=kI.1 s;have b:i<m.length:=by rw[d];exact yF.1 k
  refine⟨i,rfl,?_⟩;rw[List.getD_eq_getElem?_getD,List.getElem?_eq_getElem b]at n;rw[List.getElem?_eq_getElem b];simpa using n
 .have f:i<N:=by rw[<- d];exact(iU.1 o).1
  have r:m.getD i false=true:=by rw[eV,o];rfl
  exact absurd (cA.2 ⟨i,kI.2 ⟨yF.2 f,r⟩,rfl⟩) j
 .have:=M6 m;have k:(lW m N).length<=N:=by unfold lW;rw[ra];exact dM (kB _ _) (Ba List.length_range)
  omega
theorem ya3(m:List Bool){k:Nat}(d:k<m.length):lW m (k+1)=lW m k++(if m[k]=true then[(k:Int)]else[]):=by
 unfold lW;rw[B7,tW,sS]
 congr 1
 have:m.getD k false=m[k]:=by rw[eV,dO d];rfl
 by_cases b:m[k]=true
 .rw[aX b,List.filter_cons_of_pos (by rw[this];exact b)];rfl
 .rw[bD b,List.filter_cons_of_neg (by rw[this];exact b)];rfl
structure xG (t u:eg) (M:cQ t.ring) (n ns nu:Nat):Prop where
 mp:dB M
 hn:n+n+1<=M.lim
 hs:ns<=30
 hu:nu<=30
 it:t.aM.length=ns
 iu:u.aM.length=nu
 wit:∀ w∈t.aM,w.aJ t.ring/\M.mb n w
 wiu:∀ w∈u.aM,w.aJ t.ring/\M.mb n w
 wat:∀ x∈t.aD,x.w.aJ t.ring/\M.mb n x.w
 wau:∀ x∈u.aD,x.w.aJ t.ring/\M.mb n x.w
 at_:t.aD.length<=900
 au:u.aD.length<=900
 to:vq t u ns nu
 ml:∀ a,(tL t u a).length<=1000
def yaa{t u:eg}{M:cQ t.ring}{n z A:Nat}(o:xG t u M n z A){r:Nat}{L:List aH}(hL:kG z A L)(q:mL){st:St}(p:aA st (iX t u r (L,[]) 0)) :
  MR P 78 (GC.loop g.te).er st (some (gH q (some (dQ r L)))) λy d B=>y=.exit 0/\∃ s,s=(dL t u (L,[]) s).1.length/\B=some (gH q (some (dQ r (dL t u (L,[]) s).1)))/\aA d (iX t u r (dL t u (L,[]) s) s):=by
 have af:=mT o.hs o.hu;have E:=FT (t:=t) (u:=u) o.to o.ml (X:=(L,[])) hL rfl;refine MR.nL (I:=λm d B=>∃ s,s<=(dL t u (L,[]) s).1.length/\m=z*A*3 - s/\B=some (gH q (some (dQ r (dL t u (L,[]) s).1)))/\aA d (iX t u r (dL t u (L,[]) s) s)) (z*A*3) ⟨0,by omega,by omega,rfl,p⟩ ?_;rintro m d B ⟨s,hs,rfl,rfl,p⟩;refine MR.eE p ?_;obtain⟨H,N⟩:=E s;have Q:=H.len;generalize O:(λ(y:Exit) (d:St) (B:Option FA)=>(y=.normal->∃ m,m<z*A*3 - s/\∃ s,s<=(dL t u (L,[]) s).1.length/\m=z*A*3 - s/\B=some (gH q (some (dQ r (dL t u (L,[]) s).1)))/\aA d (iX t u r (dL t u (L,[]) s) s))/\(y ≠ .normal->y=.exit 0/\∃ s,s=(dL t u (L,[]) s).1.length/\B=some (gH q (some (dQ r (dL t u (L,[]) s).1)))/\aA d (iX t u r (dL t u (L,[]) s) s)))=R;have r1:s<(dL t u (L,[]) s).1.length->∀ d,s+1<=(vY t u s (dL t u (L,[]) s)).1.length->aA d (iX t u r (vY t u s (dL t u (L,[]) s)) (s+1))->R .normal d (some (gH q (some (dQ r (vY t u s (dL t u (L,[]) s)).1)))):=λh d h2 p=>by subst O;have e:dL t u (L,[]) (s+1)=vY t u s (dL t u (L,[]) s):=aX h;rw[<- e]at p h2 ⊢;exact⟨λ_=>⟨_,by omega,s+1,h2,rfl,rfl,p⟩,λh=>absurd rfl h⟩
 have r2:s=(dL t u (L,[]) s).1.length->∀ d,aA d (iX t u r (dL t u (L,[]) s) s)->R (.exit 0) d (some (gH q (some (dQ r (dL t u (L,[]) s).1)))):=λh d p=>by subst O;exact⟨λh=>(by cases h),λ_=>⟨rfl,s,h,rfl,p⟩⟩
 clear O p E;generalize dL t u (L,[]) s=X at *
 obtain⟨f,x⟩:=X;simp only at hs H N Q r1 r2;rw[ZR];refine MR.cK (ye1 (by omega) hs _ _ ?_);by_cases i:s<f.length
 .rw[aX i];refine⟨λ_=>?_,λh=>absurd rfl h⟩;have r3:=r1 i;clear r1 r2;have D:f.getD s ⟨0,0,0⟩∈f:=by rw[eV,dO i];exact bU i
  have W:=z58 o.mp o.hn o.wat o.wau o.at_ o.au (λa=>dM (o.ml a) (by omega)) (r0:=r) (nO f x) (f.getD s ⟨0,0,0⟩);have ag:(sK t u (f.getD s ⟨0,0,0⟩)).length<=1000:=dM (kB _ _) (o.ml _);have V:=Ud o.to (H.b _ D);have J:s*1000<=2700*1000:=jU _ (by omega);have e1:=aZ s;refine MR.cK (MR.kR ?_);refine ye2 (t:=t) (u:=u) (r:=r) (s:=s) (L:=f) (K:=x) i (by omega) (by omega) W _ _ λao ad=>MR.kR (MR.mono (yey o.hs o.hu H (λm hm=>V m ((gB _).2.2 m |>.1 hm)) (by omega) (by rw[H0];omega) (by rw[H0];omega) q ad) ?_);rintro y al B ⟨rfl,rfl,j⟩;have C:s+1<=(vY t u s (f,x)).1.length:=dM (show s+1<=f.length by omega) (ZS s _ (f,x));have Y:iY s (f,x) (bW eS.key (sK t u (f.getD s ⟨0,0,0⟩)))=vY t u s (f,x):=rfl;rw[Y]at j ⊢;generalize vY t u s (f,x)=X at *
  obtain⟨L2,K2⟩:=X;simp only at j r3 C ⊢;refine⟨λ_=>MR.eE j (MR.cE ?_),λh=>absurd rfl h⟩;have k:=nO L2 K2;have F:=k.sa;have G:=k.sb;have U:=k.l;have S:=k.a;simp[NX,iW,cZ,cS,bL,e1];refine r3 _ C (aA.cW [0,3] eF [] ?_);simp[iX,cZ,cS,bL,U,S];exact⟨F,G⟩
 .rw[bD i];exact⟨λh=>(by cases h),λ_=>r2 (by omega) _ (aA.refl _)⟩
def kN(t u:eg)(b d:Nat):List aH × List aE:=dL t u (jM t u [] b,[]) (b*d*3)
def kG.nil(ns nu:Nat):kG ns nu []:=⟨List.nodup_nil,λy b=>by cases b⟩
theorem yev{t u:eg}{M:cQ t.ring}{n b d:Nat}(o:xG t u M n b d)(r:Nat) :
  kU P 26 [i0 900000] (cZ t u r [] []) (some (dQ r [])) (.av (i4 true)) (cZ t u r (kN t u b d).1 (kN t u b d).2) (some (dQ r (kN t u b d).1)):=by
 have S:=mT o.hs o.hu;have z:=Jg (t:=t) (u:=u) (kG.nil b d) (Ba o.iu) (dE b);have J:=(FT (t:=t) (u:=u) o.to o.ml (X:=(jM t u [] b,[])) z rfl (b*d*3)).1;have m:∀ s,s=(dL t u (jM t u [] b,[]) s).1.length->dL t u (jM t u [] b,[]) s=kN t u b d:=λs F=>by
  have h1:=(FT (t:=t) (u:=u) o.to o.ml (X:=(jM t u [] b,[])) z rfl s).1.len;have Y:=Qi (t:=t) (u:=u) (X:=(jM t u [] b,[])) (s:=s) (by omega) (b*d*3 - s);rw[<- Y];unfold kN
  congr 1;omega
 have D:=WW o.mp o.hn o.hs o.hu o.wit o.wiu o.it o.iu (r:=r) (K:=[]) (kG.nil b d);have j:=λq st hw=>yaa o (r:=r) (L:=jM t u [] b) z q (st:=st) hw;have f:=nO (jM t u [] b) [];have x:(kN t u b d).1.length<=2700:=by have:=J.len;unfold kN;omega
 generalize jM t u [] b=R at *
 have i:=nO (kN t u b d).1 (kN t u b d).2;have I:=nO [] [];refine kU.fZ c.me (by simp) rfl (by simp[cZ,cS,fU]) rfl ?_ λq=>?_
 .show(true&&dS eF (cZ t u r (kN t u b d).1 (kN t u b d).2))=true;rw[show dS eF (cZ t u r (kN t u b d).1 (kN t u b d).2)=true from i.hp t u r];rfl
 unfold g.me;refine MR.dG ?_;simp[tQ];refine MR.cK (MR.mC (AU 1 [[]] ?_));simp;refine eC.cons (IP D (DO.gH q _ _) rfl ?_ ?_ rfl ?_ ?_)
 .simp
 .simp[qA,St.site,look,cZ,cS,bL,dH,eK]
 .show(true&&dS eF (cZ t u r [] [])&&true&&dS eF (cZ t u r R []))=true;rw[show dS eF (cZ t u r [] [])=true from I.hp t u r,show dS eF (cZ t u r R [])=true from f.hp t u r];rfl
 refine eC.nil ?_;have G:=f.sa;have H:=f.sb;have O:=f.l;have N:=f.a;refine MR.cK (MR.dG ?_);simp[D6,sO];refine MR.kR (MR.mono (j q _ (aA.cW [0,3] eF [] ?_)) ?_)
 .simp[iX,cZ,cS,bL,O,N];exact⟨G,H⟩
 rintro ex al B ⟨rfl,s,F,rfl,k⟩;have U:=m s F;rw[U]at F k ⊢;clear U;generalize kN t u b d=X at *
 obtain⟨Le,Q⟩:=X;simp only at i x F k ⊢;refine⟨λ_=>MR.eE k (MR.cE ?_),λh=>absurd rfl h⟩;have V:=i.sb;have ag:=i.l;have af:=i.a;clear m j D F;have C:∀ A,A=(⟨[(2,i4 true)],cZ t u r Le Q++[(aO,[none])]⟩:St)->Du [(2,none)] (cZ t u r [] []) (.av (i4 true)) (cZ t u r Le Q) .ret A:=λA h=>by subst h;refine⟨.inl rfl,_,aA.refl _,[i4 true],rfl,rfl,?_⟩;simp[qA,St.site,look,cZ,cS,bL,aO]
 generalize ad:Le=W at *
 cases W with
 | nil =>
  simp[iX,cZ,cS,bL,show dH 900001 ([]:List aH)=.nil from rfl];refine C _ ?_;simp[cZ,cS,bL,aO,dH]
 | cons y l =>
  have E:(l.length:Int)+1<=4096:=by simp at x;omega
  simp[iX,cZ,cS,bL,show dH 900001 (y::l)=.own 900001 l.length 0 (l.length+1) from rfl,show eK 3 (y::l)=List.replicate l.length none++[some ⟨3,aK (y::l)⟩] from rfl,E];refine C _ ?_;simp[cZ,cS,bL,aO,dH,eK]<;>rfl
def fA(t u:eg)(mp:PV)(L:List aH)(K:List aE):PV:=.agg [g6 t.ring.kind,.sl (ens t.ring.parts),g6 t.i,g6 t.o,g6 t.st,.sl (ens t.aM),.sl (ens t.fin),.sl (ens t.aD),
 g6 u.ring.kind,.sl (ens u.ring.parts),g6 u.i,g6 u.o,g6 u.st,.sl (ens u.aM),.sl (ens u.fin),.sl (ens u.aD),mp,.sl (ens L),.sl (ens K)]
def dR(t u:eg)(a:aH):GW:=if a.f=0 then t.ring.times (t.aM.getD a.p.toNat dT) (u.aM.getD a.q.toNat dT)else t.ring.zero
def dU(t u:eg)(a:aH):GW:=t.ring.times (t.fin.getD a.p.toNat dT) (u.fin.getD a.q.toNat dT)
def Ta{t u:eg}{M:cQ t.ring}(s:dB M){n l m:Nat}(hn:n+n+1<=M.lim)(it:t.aM.length=l)(iu:u.aM.length=m)(V:t.fin.length=l)(W:u.fin.length=m)
  (wit:∀ w∈t.aM,w.aJ t.ring/\M.mb n w) (wiu:∀ w∈u.aM,w.aJ t.ring/\M.mb n w) (b:∀ w∈t.fin,w.aJ t.ring/\M.mb n w) (d:∀ w∈u.fin,w.aJ t.ring/\M.mb n w)
  (mp:PV) (L:List aH) (K:List aE) {a:aH} (X:(0<=a.p/\a.p<l)/\(0<=a.q/\a.q<m)) :
  zS 80 [.ref (fA t u mp L K),enc a] (.bM [enc (dR t u a),enc (dU t u a)]):=by
 obtain⟨p,f⟩:∃ p:Nat,a.p=(p:Int):=⟨a.p.toNat,by omega⟩;obtain⟨q,h⟩:∃ q:Nat,a.q=(q:Int):=⟨a.q.toNat,by omega⟩;have o:p<t.aM.length:=by omega
 have i:p<t.fin.length:=by omega
 have r:q<u.aM.length:=by omega
 have j:q<u.fin.length:=by omega
 have B:t.aM.getD a.p.toNat dT=t.aM[p]:=by rw[f,kZ,eV,dO o];rfl
 have C:t.fin.getD a.p.toNat dT=t.fin[p]:=by rw[f,kZ,eV,dO i];rfl
 have D:u.aM.getD a.q.toNat dT=u.aM[q]:=by rw[h,kZ,eV,dO r];rfl
 have E:u.fin.getD a.q.toNat dT=u.fin[q]:=by rw[h,kZ,eV,dO j];rfl
 obtain⟨x,F⟩:=wit _ (bU o);obtain⟨y,G⟩:=b _ (bU i);obtain⟨z,H⟩:=wiu _ (bU r);obtain⟨A,I⟩:=d _ (bU j);have R:=s.rS (n:=n) (by omega) x z F H;have J:=s.rS (n:=n) (by omega) y A G I;unfold dR dU;rw[B,C,D,E];obtain⟨S,U,N⟩:=a;simp only at f h;subst f h;have Q:(p:Int)<(t.aM.length:Int):=by omega
 clear B C D E wit wiu b d x y z A F G H I;generalize t.ring.times t.fin[p] u.fin[q]=w2 at *
 by_cases k:N=0
 .subst k;simp only[cH];generalize t.ring.times t.aM[p] u.aM[q]=w1 at *
  refine Sp.fD c.du (by simp) (aA.dV (t:=0) (v:=fA t u mp L K) (n:=19) (by simp) rfl) ?_;simp[g.du,fA];refine aW (wG t.ring) ?_;simp;refine bK o ?_;refine bK r ?_;refine aW R ?_;simp;refine bK i ?_;refine bK j ?_;refine aW J ?_;simp
 .simp only[bD k];have O:=wG t.ring;generalize t.ring.zero=w1 at *
  refine Sp.fD c.du (by simp) (aA.dV (t:=0) (v:=fA t u mp L K) (n:=19) (by simp) rfl) ?_;simp[g.du,fA];refine aW O ?_;simp[k];refine bK i ?_;refine bK j ?_;refine aW J ?_;simp
section
variable {P:Program} {K:Ctx} {Z Z':Cz} {w w':World} {a:Act}
theorem aA.Dj{t s k sz:Nat}{sl:List (Nat × AV)}{es:List AV}{hp:List Site}(R:s<fU)(L:(hp.map (·.1)).contains s=false)(hd:(hp.map (·.1)).contains aO=false)(Cs:dS (hp.map (·.1)) hp=true)(G:lC (hp.map (·.1)) es=true)(hk:k<=es.length)(U:sl.all (λq=>pR (hp.map (·.1)) q.2)=true) :
  aA ⟨(t,.own s 0 0 k)::sl,hp++[(s,[some ⟨sz,es⟩]),(aO,[none])]⟩ ⟨(t,.own s 0 0 k)::sl,hp++[(s,[some ⟨sz,es.take k⟩]),(aO,[none])]⟩:=by
 intro K Z w a hs;have af:s≠aO:=by unfold fU at R;unfold aO;omega
 have j:∀ (es:List AV) (u:Nat),(hp.map (·.1)).contains u=true->(⟨(t,.own s 0 0 k)::sl,hp++[(s,[some ⟨sz,es⟩]),(aO,[none])]⟩:St).site u=look hp u []:=λes u hu=>by simp only[St.site,CS,hu,cH]
 have f:∀ (es:List AV) (u:Nat),(hp.map (·.1)).contains u=false->(⟨(t,.own s 0 0 k)::sl,hp++[(s,[some ⟨sz,es⟩]),(aO,[none])]⟩:St).site u=if s=u then[some ⟨sz,es⟩]else if aO=u then[none]else[]:=λes u hu=>by simp only[St.site,CS,hu,gP,fQ,look]
 have z:∀ (es:List AV) s' g' o',(⟨(t,.own s 0 0 k)::sl,hp++[(s,[some ⟨sz,es⟩]),(aO,[none])]⟩:St).obj s' g'=some o'->(hp.map (·.1)).contains s'=true\/(s'=s/\g'=0/\o'=⟨sz,es⟩):=by
  intro es s' g' o' h;cases hu:(hp.map (·.1)).contains s' with
  | true=>exact .inl rfl
  | false =>
   right;simp only[St.obj,f es s' hu]at h;split at h
   .rename_i S;cases g' with
    | zero=>simp at h;exact⟨S.symm,rfl,h.symm⟩
    | succ g=>simp at h
   .split at h
    .cases g'<;>simp at h
    .simp at h
 have r:∀ es:List AV,(⟨(t,.own s 0 0 k)::sl,hp++[(s,[some ⟨sz,es⟩]),(aO,[none])]⟩:St).obj s 0=some ⟨sz,es⟩:=λes=>by unfold St.obj;rw[f es s L];simp
 have same:∀ u,(hp.map (·.1)).contains u=true->(⟨(t,.own s 0 0 k)::sl,hp++[(s,[some ⟨sz,es.take k⟩]),(aO,[none])]⟩:St).site u=(⟨(t,.own s 0 0 k)::sl,hp++[(s,[some ⟨sz,es⟩]),(aO,[none])]⟩:St).site u:=λu hu=>by rw[j _ u hu,j _ u hu]
 have n:∀ u g,(hp.map (·.1)).contains u=true->(⟨(t,.own s 0 0 k)::sl,hp++[(s,[some ⟨sz,es.take k⟩]),(aO,[none])]⟩:St).obj u g=(⟨(t,.own s 0 0 k)::sl,hp++[(s,[some ⟨sz,es⟩]),(aO,[none])]⟩:St).obj u g:=λu g hu=>by simp only[St.obj,same u hu]
 have E:=hs.heap.bT s 0 _ (r es);have m:∀ s' g' o',(⟨(t,.own s 0 0 k)::sl,hp++[(s,[some ⟨sz,es.take k⟩]),(aO,[none])]⟩:St).obj s' g'=some o'->∃ o0,(⟨(t,.own s 0 0 k)::sl,hp++[(s,[some ⟨sz,es⟩]),(aO,[none])]⟩:St).obj s' g'=some o0:=λs' g' o' h=>by
  obtain hu|⟨rfl,rfl,_⟩:=z _ _ _ _ h
  .rw[n s' g' hu]at h;exact⟨o',h⟩
  .exact⟨_,r es⟩
 refine⟨Z,⟨λu=>?_,hs.defers,hs.size,⟨λs' g' o' h=>?_,λs1 g1 s2 g2 o1 o2 b D I X Y=>?_,hs.heap.mem,λs' g' o' b h A=>?_,λs' g' o' b h A=>?_,hs.heap.m0,hs.heap.eM,hs.heap.keep⟩⟩,⟨λu a b=>?_,λu g a b O hn=>?_,λu g o a b C=>?_⟩⟩
 .have hu:=hs.aY u;simp only[St.get,look]at hu ⊢;split at hu
  .rename_i B;simp only[B,cH];generalize a.tmps.getD u Go.undef=x at hu;cases hu with
   | d' _ _ o C A =>
    exact .d' _ _ _ (r _) A
   | own _ _ _ _ o b ad c C A D I h3 h4 =>
    rw[r]at C;cases C;exact .own _ _ _ _ _ b ad c (r _) A D I (by simp;omega) h4
   | eO _ _ _ _ _ _ _ F=>rw[r]at F;cases F
  .rename_i B;simp only[B,fQ];obtain h|⟨p,h,_,h3⟩:=BR (d:=AV.undef) (l:=sl) (s:=u)
   .rw[h];exact .undef _
   .rw[h3]at hu ⊢;exact aQ.gU (st:=⟨(t,.own s 0 0 k)::sl,hp++[(s,[some ⟨sz,es⟩]),(aO,[none])]⟩) (Z:=Z) same (λ_ _ h=>h) (λ_ _ _=>⟨rfl,rfl⟩) hu (k8.1 U p h)
 .obtain hu|⟨rfl,rfl,rfl⟩:=z _ _ _ _ h
  .rw[n s' g' hu]at h;have Q:(⟨[],hp⟩:St).obj s' g'=some o':=by simp only[St.obj,j es s' hu]at h;exact h
   exact oC.gU same (λ_ _ h=>h) (λ_ _ _=>⟨rfl,rfl⟩) hu (FW Cs Q) (hs.heap.bT s' g' o' h)
  .refine⟨E.pos,λe N=>E.iI e (iC N),λc L=>?_,λhn=>?_,λb A=>?_⟩
   .obtain⟨e,N,M⟩:=kC.1 L;exact E.one c (kC.2 ⟨e,iC N,M⟩)
   .have:=E.x5 hn;simp only at this;rw[this];simp
   .obtain⟨cur,T,vals,k1,W,k3,k4,k5,k6⟩:=E.bX b A;have e:es.flatMap AV.cells=(es.take k).flatMap AV.cells++(es.drop k).flatMap AV.cells:=by rw[<- List.flatMap_append,oK]
    rw[e]at W;obtain⟨v1,v2,rfl,q1,q2⟩:=aG.split W;refine⟨cur,T,v1,k1,aG.gU (st:=⟨(t,.own s' 0 0 k)::sl,hp++[(s',[some ⟨sz,es⟩]),(aO,[none])]⟩) (Z:=Z) same (λ_ _ h=>h) (λ_ _ _=>⟨rfl,rfl⟩) q1 ?_,λi v V=>k3 i v (by rw[wN (iU.1 V).1];exact V),k4,by simp only[fY];simp only at k5;omega,k6⟩;have D:lC (hp.map (·.1)) (es.take k)=true:=by rw[yE,k8]at G ⊢;exact λx hx=>G x (iC hx)
    exact MS D
 .obtain⟨H,y⟩:=m _ _ _ D;obtain⟨ag,J⟩:=m _ _ _ I;exact hs.heap.inj _ _ _ _ _ _ b y J X Y
 .obtain⟨H,y⟩:=m _ _ _ h;exact hs.heap.sep _ _ _ b y A
 .obtain⟨H,y⟩:=m _ _ _ h;exact hs.heap.own _ _ _ b y A
 .cases hu:(hp.map (·.1)).contains u with
  | true=>rw[same u hu];exact dE _
  | false=>rw[f _ u hu,f _ u hu];split<;>simp
 .cases hu:(hp.map (·.1)).contains u with
  | true=>rw[n u g hu];exact hn
  | false =>
   simp only[f _ u hu]at O;rw[bD (by omega),bD (by unfold aO;omega)]at O;simp at O
 .cases hu:(hp.map (·.1)).contains u with
  | true=>rw[n u g hu];exact .inr ⟨o,C,rfl,rfl,rfl,rfl⟩
  | false =>
   obtain h|⟨rfl,_,_⟩:=z _ _ _ _ C
   .rw[h]at hu;cases hu
   .omega
end
def qJ(nx:List (List Int))(m:List Bool)(o:List Int):St:=aB [(0,.own bC 0 0 m.length),(1,hW nx),(4,.own 21 0 0 o.length)] [(bC,⟨1,aK m⟩),(21,⟨1,aK o⟩)]
def qI(nx:List (List Int))(m:List Bool)(o l:List Int)(k:Nat):St:=aB [(0,.own bC 0 0 m.length),(1,hW nx),(4,.own 21 0 0 o.length),(40,hW l),(41,f8 l.length),(42,f8 k)] [(bC,⟨1,aK m⟩),(21,⟨1,aK o⟩)]
def Wr{nx:List (List Int)}{m0 m:List Bool}{N S i:Nat}{l o:List Int}(H:N<=100000)(J:l.length<=100000000)(t:∀ x∈l,∃ j:Nat,x=j/\j<N)(d:oB nx m0 N S i l 0 m o){Q:Exit->St->Prop}{ks:List Kt}{st:St}(F:aA st (qI nx m o l 0))
  (G:∀ m o st',oB nx m0 N S i l l.length m o->aA st' (qI nx m o l l.length)->gA P 59 Q (fO 4 ks) 4 st'):vL P 59 Q g.sh ks st:=by
 refine b6 (S:=λx:Nat × List Bool × List Int=>qI nx x.2.1 x.2.2 l x.1) (I:=λx=>x.1<=l.length/\oB nx m0 N S i l x.1 x.2.1 x.2.2) (m:=λx=>l.length - x.1) (0,m,o) F ⟨by simp,d⟩ ?_;rintro⟨k,m,o⟩ ⟨C,d⟩ R r L s;simp only at C d;have u:=aZ k;have A:=d.sz;have E:=d.hS;have D:=d.ml;by_cases f:k<l.length
 .obtain⟨j,z,B⟩:=t _ (bU f);have h:l[k]?=some (j:Int):=by rw[dO f,z]
  have b:j<m.length:=by omega
  simp[g.sh,qI,aB,f];refine bK f ?_;rw[z];simp[b];refine bK b ?_;cases y:m[j]with
  | true =>
   simp[u];refine r (k+1,m,o) _ (aA.to [0,1,4,40,41,42] [((bC,0),bC),((21,0),21)] ?_) ⟨by simp only;omega,d.skip h (by rw[dO b,y])⟩ (by simp only;omega);simp[qI,aB]
  | false =>
   simp[u,b,eL];refine bK b ⟨by omega,r (k+1,m.set j true,o++[(j:Int)]) _ (aA.to [0,1,4,40,41,42] [((bC,0),bC),((57,0),21)] ?_) ⟨by simp only;omega,d.push h (by rw[dO b,y])⟩ (by simp only;omega)⟩;rw[CZ m j true (v:=i4 true) rfl];have n:(m.set j true).length=m.length:=List.length_set;simp only[qI];rw[n];generalize m.set j true=M;simp[aB]
 .have:k=l.length:=by omega
  subst this;simp[g.sh,qI,aB];refine s _ _ (G m o _ d ?_);simp[qI,aB];exact aA.refl _
def Ws{nx:List (List Int)}{m0:List Bool}{N:Nat}(G:N<=100000)(L:∀ l∈nx,l.length<=100000000/\∀ x∈l,∃ j:Nat,x=j/\j<N){m:List Bool}{o:List Int}(d:tH nx m0 N m o){Q:Exit->St->Prop}{ks:List Kt}{st:St}(W:aA st (qJ nx m o))
  (X:gA P 59 Q (fO 2 ks) 2 (qJ nx (iN nx m0) [])):vL P 59 Q g.sj ks st:=by
 refine b6 (S:=λx:List Bool × List Int=>qJ nx x.1 x.2) (I:=λx=>tH nx m0 N x.1 x.2) (m:=λx=>2*sM x.1+x.2.length) (m,o) W d ?_;rintro⟨m,o⟩ d R y hr A;simp only at d;have B:=d.sz;have M:=d.ml;obtain rfl|⟨o,x,rfl⟩:=B' o
 .have:=d.fin;subst this;simp[g.sj,qJ,aB];refine A _ _ ?_;simpa[qJ,aB]using X
 .rw[xV]at *
  obtain⟨i,l,rfl,hi,b,h⟩:=d.pop;have U:=h.sz;have O:=h.hS;have D:IntKind.i64.wrap (o.length:Int)=(o.length:Int):=cT;have hg:(aK o++[f8 (i:Int)])[o.length]?=some (f8 i):=by rw[qG (by rw[vE];exact dE _),vE,Db];rfl
  have u:l∈nx:=by obtain⟨E,F⟩:=iU.1 b;exact F ▸ bU E
  have J:i<nx.length:=(iU.1 b).1;have H:nx[i]=l:=(iU.1 b).2;obtain⟨n,r⟩:=L l u;simp[g.sj,qJ,aB,D];refine eD b ?_
  refine Wr (N:=N) (i:=i) (m0:=m0) G n r h (l:=l) ((aA.to [4,0,1,40,41,42] [((bC,0),bC),((21,0),21)] (st':=⟨[(4,.own 21 0 0 o.length),(0,.own bC 0 0 m.length),(1,hW nx),(40,hW l),(41,f8 l.length),(42,f8 0)],[(bC,[some ⟨1,aK m⟩])]++[(21,[some ⟨1,aK o++[f8 i]⟩]),(aO,[none])]⟩) ?_).trans
   ((aA.Dj (t:=4) (s:=21) (k:=o.length) (sz:=1) (hp:=[(bC,[some ⟨1,aK m⟩])]) (by decide) rfl rfl ?_ ?_ (dM (Ba (vE o).symm) (by simp)) ?_).trans (aA.to [0,1,4,40,41,42] [((bC,0),bC),((21,0),21)] ?_))) ?_
  .simp[aO]
  .simp[-gW,dS,vT,yE,aK]<;>exact λx _=>rfl
  .simp[-gW,yE,aK]<;>exact⟨λx _=>rfl,rfl⟩
  .simp[pR]
  .have V:(aK o++[f8 (i:Int)]).take o.length=aK o:=by rw[De (Ba (vE o).symm),eZ (Ba (vE o))]
   rw[V];simp[qI,aB,aO]
  .rintro Y o2 st' f z;have C:=f.sz;simp[gA,fO];refine y (Y,o2) _ (z.trans (aA.to [0,1,4] [((bC,0),bC),((21,0),21)] ?_)) (f.done (dE _)) (by simp only[gQ,Jq];omega);simp[qI,qJ,aB]
def Wq{nx:List (List Int)}{m:List Bool}(u:m.length<=100000){Q:Exit->St->Prop}{ks:List Kt}{st:St}(s:aA st (aB [(0,.own bC 0 0 m.length),(1,hW nx),(4,.own 21 0 0 0),(10,.own bC 0 0 m.length),(11,f8 m.length),(12,f8 0)] [(bC,⟨1,aK m⟩),(21,⟨1,[]⟩)]))
  (t:∀ st',aA st' (qJ nx m (lW m m.length))->gA P 59 Q (fO 0 ks) 0 st'):vL P 59 Q g.sg ks st:=by
 refine b6 (S:=λk:Nat=>aB [(0,.own bC 0 0 m.length),(1,hW nx),(4,.own 21 0 0 (lW m k).length),(10,.own bC 0 0 m.length),(11,f8 m.length),(12,f8 k)] [(bC,⟨1,aK m⟩),(21,⟨1,aK (lW m k)⟩)]) (I:=λk=>k<=m.length) (m:=λk=>m.length - k) 0 s (by omega) ?_;rintro k x R f y i;have j:=aZ k;have n:(lW m k).length<=k:=by unfold lW;rw[ra];exact dM (kB _ _) (Ba List.length_range)
 by_cases d:k<m.length
 .have r:=ya3 m d;have b:∀ st',aA st' (aB [(0,.own bC 0 0 m.length),(1,hW nx),(4,.own 21 0 0 (lW m (k+1)).length),(10,.own bC 0 0 m.length),(11,f8 m.length),(12,f8 (k+1:Nat))] [(bC,⟨1,aK m⟩),(21,⟨1,aK (lW m (k+1))⟩)])->R .normal st':=λst' h=>f (k+1) st' h (by omega) (by omega);rw[r]at b;generalize lW m k=o at *
  simp[g.sg,aB,d];refine bK d ?_;cases l:m[k]with
  | true =>
   rw[l]at b;simp[j,eL];refine⟨by omega,b _ (aA.to [0,1,4,10,11,12] [((bC,0),bC),((21,1),21)] ?_)⟩;simp[aB]
  | false =>
   rw[l]at b;simp[j];refine b _ (aA.to [0,1,4,10,11,12] [((bC,0),bC),((21,0),21)] ?_);simp[aB]
 .have:k=m.length:=by omega
  subst this;simp[g.sg,aB];refine i _ _ (t _ (aA.to [0,1,4] [((bC,0),bC),((21,0),21)] ?_));simp[qJ,aB]
def QN{nx:List (List Int)}{m:List Bool}{N:Nat}(h:N<=100000)(d:m.length=N)(f:nx.length=N)(i:∀ l∈nx,l.length<=100000000/\∀ x∈l,∃ j:Nat,x=j/\j<N) :
  gO P 129 [.sl (ens m),.sl (ens nx)] 0 1 (ens (iN nx m)) (.pure (.bM [])):=by
 have b:(iN nx m).length=m.length:=by simp[iN]
 refine gO.cE c.og (by simp) rfl (by simp[b]) ?_;simp[g.og];refine Wq (nx:=nx) (m:=m) (by omega) (aA.nl 4 77 1 rfl (aA.to [0,1,4,10,11,12] [((bC,0),bC),((77,0),21)] ?_)) ?_
 .simp[aB]
 .intro n k;simp[gA,fO];refine Ws (N:=N) (m0:=m) h i (d ▸ YY rfl (f.trans d.symm)) k ?_;simp[gA,fO,qJ,aB]
def lu{α : Type}(d : α)(l:List α)(k:Nat):List α := l.take k++List.replicate (l.length - k) d
def FM{α : Type}(d : α)(l:List α){k:Nat}(h:k<=l.length):(lu d l k).length=l.length:=by simp[lu];omega
theorem FN{α : Type}(d : α)(l:List α){k:Nat}(h:k<l.length):(lu d l k).set k l[k]=lu d l (k+1):=by
 unfold lu;have f:(l.take k).length=k:=by rw[fY];omega
 rw[C' _ _ (by omega),f,Db];obtain⟨n,i⟩:∃ n,l.length - k=n+1:=⟨l.length - k - 1,by omega⟩;have b:l.length - (k+1)=n:=by omega
 rw[i,b,Cj,G0,ed h,sI];rfl
def HU{α : Type}(d : α)(l:List α):lu d l l.length=l:=by simp[lu]
def Ii{α : Type}(d : α)(l:List α):lu d l 0=List.replicate l.length d:=by simp[lu]
def fI(t u:eg)(L:List aH):List Bool:=L.map λa=>!decide (dR t u a=t.ring.zero)
def fF(t u:eg)(L:List aH):List Bool:=L.map λa=>!decide (dU t u a=t.ring.zero)
def Ai(t u:eg)(mp:PV)(L:List aH)(K:List aE)(A B:List Bool)(k:Nat):St :=
 ⟨[(0,.cp (fA t u mp L K) 19 0),(3,.own 19 0 0 L.length),(4,.own 25 0 0 L.length),(29,hW L),(30,f8 L.length),(31,f8 k)],[(19,[some ⟨1,aK A⟩]),(25,[some ⟨1,aK B⟩]),(aO,[none])]⟩
theorem K6(st:St)(v:PV)(n:Nat):bH st bF (.cp v n 0)=some (.ref v):=rfl
theorem HB(st:St)(v:PV)(n m:Nat):aS st bF (.cp v n m)=[]:=rfl
def W3{t u:eg}{M:cQ t.ring}(W:dB M){n C D:Nat}(hn:n+n+1<=M.lim)(it:t.aM.length=C)(iu:u.aM.length=D)(Y:t.fin.length=C)(fu:u.fin.length=D)
  (wit:∀ w∈t.aM,w.aJ t.ring/\M.mb n w) (wiu:∀ w∈u.aM,w.aJ t.ring/\M.mb n w) (E:∀ w∈t.fin,w.aJ t.ring/\M.mb n w) (F:∀ w∈u.fin,w.aJ t.ring/\M.mb n w)
  (mp:PV) {L:List aH} (hL:kG C D L) (ad:L.length<=4000) (K:List aE) (zs:∀ a∈L,(dR t u a).sm 1048576/\(dU t u a).sm 1048576) {Q:Exit->St->Prop} {ks:List Kt} {st:St} (U:aA st (Ai t u mp L K (List.replicate L.length false) (List.replicate L.length false) 0))
  (V:gA P 139 Q (fO 0 ks) 0 (Ai t u mp L K (fI t u L) (fF t u L) L.length)):vL P 139 Q g.sd ks st:=by
 have y:(fI t u L).length=L.length:=by simp[fI]
 have x:(fF t u L).length=L.length:=by simp[fF]
 refine b6 (S:=λk:Nat=>Ai t u mp L K (lu false (fI t u L) k) (lu false (fF t u L) k) k) (I:=λk=>k<=L.length) (m:=λk=>L.length - k) 0 (by rw[Ii,Ii,y,x];exact U) (by omega) ?_;rintro k hk R r hr s;have X:=aZ k;by_cases f:k<L.length
 .have d:∀ j,aA j (Ai t u mp L K (lu false (fI t u L) (k+1)) (lu false (fF t u L) (k+1)) (k+1))->R .normal j:=λj h=>r (k+1) j h (by omega) (by omega);rw[<- FN false (fI t u L) (by omega:k<_),<- FN false (fF t u L) (by omega:k<_)]at d;have J:=FM false (fI t u L) (k:=k) (by omega);have N:=FM false (fF t u L) (k:=k) (by omega);rw[y]at J;rw[x]at N;have o:(fI t u L)[k] = !decide (dR t u L[k]=t.ring.zero):=by simp[fI]
  have l:(fF t u L)[k] = !decide (dU t u L[k]=t.ring.zero):=by simp[fF]
  rw[o,l]at d;have i:=bU f;have O:=hL.b _ i;have z:=Ta W hn it iu Y fu wit wiu E F mp L K (a:=L[k]) ⟨O.1,O.2.1⟩;have z1:=Ey t.ring (dR t u L[k]) (zs _ i).1;have z2:=Ey t.ring (dU t u L[k]) (zs _ i).2;clear o l r U V s hr y x zs;generalize lu false (fI t u L) k=A at *
  generalize lu false (fF t u L) k=B at *
  simp[g.sd,Ai,f];refine bK f ?_;generalize L[k]'f=a at *
  generalize dR t u a=w1 at *
  generalize dU t u a=w2 at *
  refine bA z (by simp[K6]) ?_;simp[fA,HB];refine aW z1 ?_;simp;refine aW z2 ?_;simp[f,J,N,X];refine bK (by omega:k<A.length) (bK (by omega:k<B.length) (d _ (aA.to [0,3,4,29,30,31] [((19,0),19),((25,0),25)] ?_)));rw[CZ A k _ (v:=.p (.bool !decide (w1=t.ring.zero))) rfl,CZ B k _ (v:=.p (.bool !decide (w2=t.ring.zero))) rfl];generalize A.set k (!decide (w1=t.ring.zero))=A2;generalize B.set k (!decide (w2=t.ring.zero))=B2;simp[Ai,fA,aO]
 .have:k=L.length:=by omega
  subst this;have G:=HU false (fI t u L);have H:=HU false (fF t u L);rw[y]at G;rw[x]at H;rw[G,H];simp[g.sd,Ai];refine s _ _ ?_;simpa[Ai]using V
structure iG (F:Nat) (cs:List AV) (H:List (Option bI)) (ls:List (List Int)):Prop where
 len:cs.length=ls.length
 cell:∀ (i:Nat) (l:List Int),ls[i]?=some l->(cs[i]?=some .nil/\l=[])\/∃ g,cs[i]?=some (.own F g 0 l.length)/\H[g]?=some (some ⟨1,aK l⟩)
 inj:∀ i j g n m:Nat,cs[i]?=some (AV.own F g 0 n)->cs[j]?=some (AV.own F g 0 m)->i=j
 Cs:∀ x∈H,∀ o,x=some o->∃ l:List Int,o=⟨1,aK l⟩
def iG.start(F n:Nat):iG F (List.replicate n .nil) [] (List.replicate n []):=by
 refine⟨by simp,λi l h=>.inl ?_,λi j g d m h=>?_,λx b=>by cases b⟩
 .rw[Jm]at h ⊢;split at h
  .rename_i hi;rw[aX hi];cases h;exact⟨rfl,rfl⟩
  .cases h
 .rw[Jm]at h;split at h<;>cases h
def iG.app{F:Nat}{cs:List AV}{H s:List (Option bI)}{ls:List (List Int)}{i:Nat}{l:List Int}{x:Int}(h:iG F cs H ls)(hi:ls[i]?=some l)
  (C:(cs[i]?=some .nil/\s=H)\/∃ g n,cs[i]?=some (.own F g 0 n)/\s=H.set g none) :
  iG F (cs.set i (.own F s.length 0 (l.length+1))) (s++[some ⟨1,aK (l++[x])⟩]) (ls.set i (l++[x])):=by
 have z:i<ls.length:=(iU.1 hi).1;have D:i<cs.length:=by rw[h.len];exact z
 have I:s.length=H.length:=by obtain⟨_,rfl⟩|⟨g,n,_,rfl⟩:=C<;>simp
 have r:∀ j g n:Nat,cs[j]?=some (AV.own F g 0 n)->g<H.length:=λj g n f=>by
  have E:j<ls.length:=by rw[<- h.len];exact(iU.1 f).1
  obtain⟨d,_⟩|⟨g',d,A⟩:=h.cell j _ (dO E)
  .rw[f]at d;cases d
  .rw[f]at d;cases d;exact(iU.1 A).1
 refine⟨by simp[h.len],λj l' f=>?_,λa b g n m u t=>?_,λy k o B=>?_⟩
 .rw[vK]at f ⊢;by_cases p:i=j
  .subst p;rw[aX rfl,aX z]at f;cases f;rw[aX rfl,aX D];refine .inr ⟨s.length,by simp,?_⟩;simp
  .rw[bD p]at f ⊢;obtain d|⟨g,d,A⟩:=h.cell j l' f
   .exact .inl d
   .refine .inr ⟨g,d,?_⟩;have M:=r j g _ d;rw[wN (by omega)];obtain⟨_,rfl⟩|⟨g',n,G,rfl⟩:=C
    .exact A
    .rw[vK,bD]
     .exact A
     .rintro rfl;exact p (h.inj i j g' _ _ G d)
 .rw[vK]at u t;split at u
  .rename_i J;split at t
   .rename_i L;omega
   .cases u;have:=r b _ _ t;omega
  .split at t
   .cases t;have:=r a _ _ u;omega
   .exact h.inj a b g n m u t
 .obtain k|k:=dN.1 k
  .obtain⟨_,rfl⟩|⟨g',n,G,rfl⟩:=C
   .exact h.Cs y k o B
   .obtain k|rfl:=E5 k
    .exact h.Cs y k o B
    .cases B
  .simp only[iT]at k;subst k;cases B;exact⟨_,rfl⟩
def iG.cells{F:Nat}{cs:List AV}{H:List (Option bI)}{ls:List (List Int)}(h:iG F cs H ls):∀ c∈cs,c=.nil\/∃ g n,c=.own F g 0 n:=λc f=>by
 obtain⟨i,hi,rfl⟩:=Jt f;have d:i<ls.length:=by rw[<- h.len];exact hi
 obtain⟨b,_⟩|⟨g,b,_⟩:=h.cell i _ (dO d)
 .rw[dO hi]at b;exact .inl (NG b)
 .rw[dO hi]at b;exact .inr ⟨g,_,NG b⟩
def iG.refs{F:Nat}{cs:List AV}{H:List (Option bI)}{ls:List (List Int)}(h:iG F cs H ls){ks:List Nat}(b:ks.contains F=true):lC ks cs=true:=by
 rw[yE,k8];intro c d;obtain rfl|⟨g,n,rfl⟩:=h.cells c d
 .rfl
 .exact b
theorem iG.bT{F:Nat}{cs:List AV}{H:List (Option bI)}{ls:List (List Int)}(h:iG F cs H ls)(ks:List Nat):∀ x∈H,vT ks x=true:=λx b=>by
 cases x with
 | none=>rfl
 | some o =>
  obtain⟨l,rfl⟩:=h.Cs _ b o rfl;show lC ks (aK l)=true;simp
def qC(ls:List (List Int))(i j:Int):List (List Int):=ls.set i.toNat (ls.getD i.toNat []++[j])
def P1(ls:List (List Int))(i j:Int):(qC ls i j).length=ls.length:=by simp[qC]
def s5(K:List aE)(n:Nat):List (List Int):=K.foldl (λb x=>qC b x.f x.t) (List.replicate n [])
def tG(K:List aE)(n:Nat):List (List Int):=K.foldl (λb x=>qC b x.t x.f) (List.replicate n [])
def ya7(K:List aE)(n:Nat)(x:aE):s5 (K++[x]) n=qC (s5 K n) x.f x.t:=by simp[s5]
def ycw(K:List aE)(n:Nat)(x:aE):tG (K++[x]) n=qC (tG K n) x.t x.f:=by simp[tG]
theorem Ld(g:aE->Int)(h:aE->Int):∀ (K:List aE) (ls:List (List Int)),(K.foldl (λls x=>qC ls (g x) (h x)) ls).length=ls.length
 | [],_=>rfl
 | x::K,ls=>by rw[C8,Ld g h K,P1]
def HO(K:List aE)(n:Nat):(s5 K n).length=n:=by unfold s5;rw[Ld];simp
def HF(K:List aE)(n:Nat):(tG K n).length=n:=by unfold tG;rw[Ld];simp
theorem FB(g:aE->Int)(h:aE->Int):∀ (K:List aE) (ls:List (List Int)) (B:Nat),(∀ l∈ls,l.length<=B)->∀ l∈K.foldl (λls x=>qC ls (g x) (h x)) ls,l.length<=B+K.length
 | [],_,_,d,l,b=>d l b
 | x::K,ls,B,d,l,b=>by
  have:=FB g h K (qC ls (g x) (h x)) (B+1) (λl b=>by
   unfold qC at b;obtain b|rfl:=E5 b
   .exact dM (d l b) (by omega)
   .rw[gQ,Jq];have:(ls.getD (g x).toNat []).length<=B:=by
     rw[eV];cases f:ls[(g x).toNat]? with
     | none=>simp
     | some y=>exact d y (wM f)
    omega) l b
  rw[qH];omega
def sV(n:Nat)(K:List aE)(A B:List Bool)(b d:List AV)(f h:List (Option bI))(k:Nat):St :=
 ⟨[(3,.own 19 0 0 n),(4,.own 25 0 0 n),(9,.own 70 0 0 n),(10,.own 76 0 0 n),(80,hW K),(81,f8 K.length),(82,f8 k)],
  [(100,f),(109,h),(19,[some ⟨1,aK A⟩]),(25,[some ⟨1,aK B⟩]),(70,[some ⟨1,b⟩]),(76,[some ⟨1,d⟩]),(aO,[none])]⟩
structure UsX where
 k:Nat
 C1:List AV
 C2:List AV
 H1:List (Option bI)
 H2:List (Option bI)
def z82{n:Nat}{K:List aE}(ao:K.length<=100000000)(hK:∀ x∈K,x.fit n){A B:List Bool}{Q:Exit->St->Prop}{ks:List Kt}{st:St}(hw:aA st (sV n K A B (List.replicate n .nil) (List.replicate n .nil) [] [] 0))
  (u:∀ J L M N,iG 100 J M (s5 K n)->iG 109 L N (tG K n)->gA P 139 Q (fO 2 ks) 2 (sV n K A B J L M N K.length)):vL P 139 Q g.qo ks st:=by
 refine b6 (S:=λx:UsX=>sV n K A B x.C1 x.C2 x.H1 x.H2 x.k) (I:=λx=>x.k<=K.length/\iG 100 x.C1 x.H1 (s5 (K.take x.k) n)/\iG 109 x.C2 x.H2 (tG (K.take x.k) n)) (m:=λx=>K.length - x.k) ⟨0,_,_,[],[]⟩ hw ⟨by simp,by simpa[s5]using iG.start 100 n,by simpa[tG]using iG.start 109 n⟩ ?_;rintro⟨k,J,L,M,N⟩ ⟨hk,r,s⟩ R ag hr al;simp only at hk r s;have e1:=aZ k;by_cases i:k<K.length
 .obtain⟨⟨f0,f1⟩,t0,t1⟩:=hK _ (bU i);have d:∀ W J L M N,iG 100 J M (s5 (K.take (k+1)) n)->iG 109 L N (tG (K.take (k+1)) n)->aA W (sV n K A B J L M N (k+1))->R .normal W:=λW J L M N a b h=>ag ⟨k+1,J,L,M,N⟩ W h ⟨by simp only;omega,a,b⟩ (by simp only;omega);rw[ed i,ya7,ycw]at d;obtain⟨f,hf⟩:∃ f:Nat,K[k].f=(f:Int):=⟨K[k].f.toNat,by omega⟩;obtain⟨t,ht⟩:∃ t:Nat,K[k].t=(t:Int):=⟨K[k].t.toNat,by omega⟩;rw[hf,ht]at d;have lN:=HO (K.take k) n;have lB:=HF (K.take k) n;have bN:=FB (·.f) (·.t) (K.take k) (List.replicate n []) 0 (λl hl=>by rw[B8 hl];exact dE _);have bB:=FB (·.t) (·.f) (K.take k) (List.replicate n []) 0 (λl hl=>by rw[B8 hl];exact dE _);have bN:∀ l∈s5 (K.take k) n,l.length<=0+(K.take k).length:=bN;have bB:∀ l∈tG (K.take k) n,l.length<=0+(K.take k).length:=bB;rw[fY]at bN bB;generalize s5 (K.take k) n=E at *
  generalize tG (K.take k) n=F at *
  have p:f<n:=by omega
  have V:t<n:=by omega
  have ad:f<E.length:=by omega
  have af:t<F.length:=by omega
  have O:J.length=n:=by rw[r.len,lN]
  have U:L.length=n:=by rw[s.len,lB]
  have X:=dO ad;have Y:=dO af;have b1:=bN _ (bU ad);have b2:=bB _ (bU af);have d1:qC E f t=E.set f (E[f]++[(t:Int)]):=by unfold qC;rw[kZ,eV,X];rfl
  have d2:qC F t f=F.set t (F[t]++[(f:Int)]):=by unfold qC;rw[kZ,eV,Y];rfl
  rw[d1,d2]at d;generalize ap:E[f]=l1 at *
  generalize aq:F[t]=l2 at *
  obtain⟨C,q1⟩|⟨ga,C,q1⟩:=r.cell f l1 X<;>obtain⟨D,q2⟩|⟨gb,D,q2⟩:=s.cell t l2 Y
  .subst q1 q2;have j:=r.app (x:=(t:Int)) X (.inl ⟨C,rfl⟩);have o:=s.app (x:=(f:Int)) Y (.inl ⟨D,rfl⟩);simp[g.qo,sV,i];refine bK i ?_;rw[hf,ht];simp only[kZ];refine⟨⟨by omega,p,by omega⟩,?_⟩;rw[lM];refine⟨_,C,?_⟩;simp[eL];refine⟨by omega,?_⟩;rw[lM];refine⟨_,D,?_⟩;simp[eL,p,O];rw[lM];refine⟨_,C,?_⟩;simp[V,U];rw[lM];refine⟨_,D,?_⟩;simp[e1];have G:=wC (ids:=[((19,0),19),((25,0),25),((70,0),70),((76,0),76)]) (j.refs (ks:=[100,109]) rfl);have H:=wC (ids:=[((19,0),19),((25,0),25),((70,0),70),((76,0),76)]) (o.refs (ks:=[100,109]) rfl);have y:=j.bT [100,109];have z:=o.bT [100,109];simp at j o G H y z;refine d _ _ _ _ _ j o (aA.cW [3,4,9,10,80,81,82] [100,109] [((19,0),19),((25,0),25),((70,0),70),((76,0),76)] ?_);simp[sV,G,H,aO];exact⟨r.bT [100,109],s.bT [100,109]⟩
  .subst q1;have j:=r.app (x:=(t:Int)) X (.inl ⟨C,rfl⟩);have o:=s.app (x:=(f:Int)) Y (.inr ⟨gb,_,D,rfl⟩);simp[g.qo,sV,i];refine bK i ?_;rw[hf,ht];simp only[kZ];refine⟨⟨by omega,p,by omega⟩,?_⟩;rw[lM];refine⟨_,C,?_⟩;simp[eL];refine⟨by omega,?_⟩;rw[lM];refine⟨_,D,?_⟩;simp[eL,p,O,q2];refine⟨by omega,?_⟩;rw[lM];refine⟨_,C,?_⟩;simp[V,U];rw[lM];refine⟨_,D,?_⟩;simp[e1];have G:=wC (ids:=[((19,0),19),((25,0),25),((70,0),70),((76,0),76)]) (j.refs (ks:=[100,109]) rfl);have H:=wC (ids:=[((19,0),19),((25,0),25),((70,0),70),((76,0),76)]) (o.refs (ks:=[100,109]) rfl);have y:=j.bT [100,109];have z:=o.bT [100,109];simp at j o G H y z;refine d _ _ _ _ _ j o (aA.cW [3,4,9,10,80,81,82] [100,109] [((19,0),19),((25,0),25),((70,0),70),((76,0),76)] ?_);simp[sV,G,H,aO]
   repeat' apply And.intro
   all_goals first|exact r.bT [100,109]|exact s.bT [100,109]|exact λx u=>y x (.inl u)|exact λx u=>z x (.inl u)|exact y _ (.inr rfl)|exact z _ (.inr rfl)
  .subst q2;have j:=r.app (x:=(t:Int)) X (.inr ⟨ga,_,C,rfl⟩);have o:=s.app (x:=(f:Int)) Y (.inl ⟨D,rfl⟩);simp[g.qo,sV,i];refine bK i ?_;rw[hf,ht];simp only[kZ];refine⟨⟨by omega,p,by omega⟩,?_⟩;rw[lM];refine⟨_,C,?_⟩;simp[eL,q1];refine⟨by omega,by omega,?_⟩;rw[lM];refine⟨_,D,?_⟩;simp[eL,p,O];rw[lM];refine⟨_,C,?_⟩;simp[V,U];rw[lM];refine⟨_,D,?_⟩;simp[e1];have G:=wC (ids:=[((19,0),19),((25,0),25),((70,0),70),((76,0),76)]) (j.refs (ks:=[100,109]) rfl);have H:=wC (ids:=[((19,0),19),((25,0),25),((70,0),70),((76,0),76)]) (o.refs (ks:=[100,109]) rfl);have y:=j.bT [100,109];have z:=o.bT [100,109];simp at j o G H y z;refine d _ _ _ _ _ j o (aA.cW [3,4,9,10,80,81,82] [100,109] [((19,0),19),((25,0),25),((70,0),70),((76,0),76)] ?_);simp[sV,G,H,aO]
   repeat' apply And.intro
   all_goals first|exact r.bT [100,109]|exact s.bT [100,109]|exact λx u=>y x (.inl u)|exact λx u=>z x (.inl u)|exact y _ (.inr rfl)|exact z _ (.inr rfl)
  .have j:=r.app (x:=(t:Int)) X (.inr ⟨ga,_,C,rfl⟩);have o:=s.app (x:=(f:Int)) Y (.inr ⟨gb,_,D,rfl⟩);simp[g.qo,sV,i];refine bK i ?_;rw[hf,ht];simp only[kZ];refine⟨⟨by omega,p,by omega⟩,?_⟩;rw[lM];refine⟨_,C,?_⟩;simp[eL,q1];refine⟨by omega,by omega,?_⟩;rw[lM];refine⟨_,D,?_⟩;simp[eL,p,O,q2];refine⟨by omega,?_⟩;rw[lM];refine⟨_,C,?_⟩;simp[V,U];rw[lM];refine⟨_,D,?_⟩;simp[e1];have G:=wC (ids:=[((19,0),19),((25,0),25),((70,0),70),((76,0),76)]) (j.refs (ks:=[100,109]) rfl);have H:=wC (ids:=[((19,0),19),((25,0),25),((70,0),70),((76,0),76)]) (o.refs (ks:=[100,109]) rfl);have y:=j.bT [100,109];have z:=o.bT [100,109];simp at j o G H y z;refine d _ _ _ _ _ j o (aA.cW [3,4,9,10,80,81,82] [100,109] [((19,0),19),((25,0),25),((70,0),70),((76,0),76)] ?_);simp[sV,G,H,aO]
   repeat' apply And.intro
   all_goals first|exact r.bT [100,109]|exact s.bT [100,109]|exact λx u=>y x (.inl u)|exact λx u=>z x (.inl u)|exact y _ (.inr rfl)|exact z _ (.inr rfl)
 .have:k=K.length:=by omega
  subst this;rw[List.take_length]at r s;simp[g.qo,sV];refine al _ _ ?_;simpa[sV,aO]using u J L M N r s
def R8{m:List Bool}{i:Nat}:m[i]?=some true ↔ m.getD i false=true:=by rw[eV];cases m[i]?<;>simp
def OX(on:List Bool)(p:Int × Int){i:Nat}(h:on.getD i false=true):(rA on p).getD i false=true:=by
 unfold rA;split
 .by_cases b:p.2.toNat<on.length
  .rw[L7 b];split
   .rfl
   .exact h
  .rw[List.set_eq_of_length_le (by omega)];exact h
 .exact h
theorem LQ:∀ (ps:List (Int × Int)) (on:List Bool) {i:Nat},on.getD i false=true->(lS ps on).getD i false=true
 | [],_,_,h=>h
 | p::ps,on,i,h=>LQ ps (rA on p) (OX on p h)
theorem OU(ps:List (Int × Int)):∀ (n:Nat) (on:List Bool) {i:Nat},on.getD i false=true->(iS ps n on).getD i false=true
 | 0,_,_,h=>h
 | n+1,on,i,h=>OU ps n (lS ps on) (LQ ps on h)
theorem Wt{ps:List (Int × Int)}{p:Int × Int}:∀ {on:List Bool},p∈ps->on.getD p.1.toNat false=true->p.2.toNat<on.length->(lS ps on).getD p.2.toNat false=true:=by
 induction ps with
 | nil=>intro on h;cases h
 | cons q ps d =>
  intro on hm h b;obtain rfl|hm:=cI.1 hm
  .refine LQ ps (rA on p) ?_;unfold rA;rw[aX h,L7 b,aX rfl]
  .exact d hm (OX on q h) (by rw[z37];exact b)
def ZX(on:List Bool)(p:Int × Int):rA on p=on\/sM (rA on p)<sM on:=by
 unfold rA;split
 .by_cases d:p.2.toNat<on.length
  .cases b:on.getD p.2.toNat true with
   | false=>right;have:=Ks on p.2.toNat b;omega
   | true =>
    left;apply E6;intro i;rw[vK];split
    .rename_i h;subst h;rw[eV,dO d]at b;rw[dO d];rw[xW]at b;simp[b]
    .rfl
  .left;exact List.set_eq_of_length_le (by omega)
 .exact .inl rfl
theorem Hx:∀ (ps:List (Int × Int)) (on:List Bool),lS ps on=on\/sM (lS ps on)<sM on
 | [],_=>.inl rfl
 | p::ps,on=>by
  show lS ps (rA on p)=on\/sM (lS ps (rA on p))<sM on;obtain h|h:=ZX on p
  .rw[h];exact Hx ps on
  .obtain k|k:=Hx ps (rA on p)
   .rw[k];exact .inr h
   .exact .inr (by omega)
theorem PY{ps:List (Int × Int)}{on:List Bool}(h:lS ps on=on):∀ n,iS ps n on=on
 | 0=>rfl
 | n+1=>by show iS ps n (lS ps on)=on;rw[h];exact PY h n
theorem OV(ps:List (Int × Int)):∀ (n:Nat) (on:List Bool),sM on<=n->lS ps (iS ps n on)=iS ps n on
 | 0,on,h=>by
  obtain k|k:=Hx ps on
  .exact k
  .omega
 | n+1,on,h=>by
  show lS ps (iS ps n (lS ps on))=iS ps n (lS ps on);obtain k|k:=Hx ps on
  .rw[k,PY k];exact k
  .exact OV ps n _ (by omega)
def PN(ps:List (Int × Int))(nx:List (List Int))(N:Nat):Prop:=nx.length=N/\(∀ p∈ps,(0<=p.1/\p.1<N)/\0<=p.2/\p.2<N)/\∀ (i j:Nat),(∃ l,nx[i]?=some l/\(j:Int)∈l) ↔ ((i:Int),(j:Int))∈ps
theorem PZ{ps:List (Int × Int)}{nx:List (List Int)}{N:Nat}(h:PN ps nx N){m:List Bool}:∀ (n:Nat) (on:List Bool),(∀ i,on.getD i false=true->kq nx m i)->∀ i,(iS ps n on).getD i false=true->kq nx m i
 | 0,_,b,i,f=>b i f
 | n+1,on,b,i,f=>by
  refine PZ h n (lS ps on) ?_ i f;have:∀ (o:List (Int × Int)),(∀ q∈o,q∈ps)->∀ (on:List Bool),(∀ i,on.getD i false=true->kq nx m i)->∀ i,(lS o on).getD i false=true->kq nx m i:=by
   intro o
   induction o with
   | nil=>intro _ on b i f;exact b i f
   | cons q o x =>
    intro p on b i f;refine x (λr u=>p r (by simp[u])) (rA on q) (λk d=>?_) i f;unfold rA at d;split at d
    .rename_i s;by_cases t:q.2.toNat<on.length
     .rw[L7 t]at d;split at d
      .rename_i e;have j:=p q (by simp);obtain⟨⟨A,B⟩,C,D⟩:=h.2.1 q j;obtain⟨l,y,z⟩:=(h.2.2 q.1.toNat q.2.toNat).2 (by rw[show((q.1.toNat:Nat):Int)=q.1 by omega,show((q.2.toNat:Nat):Int)=q.2 by omega];exact j);exact e ▸ kq.step (b _ s) y z
      .exact b k d
     .rw[List.set_eq_of_length_le (by omega)]at d;exact b k d
    .exact b k d
  exact this ps (λ_ h=>h) on b
def S4{ps:List (Int × Int)}{nx:List (List Int)}{N:Nat}(h:PN ps nx N){m:List Bool}(C:m.length=N):iS ps m.length m=iN nx m:=by
 have f:=OV ps m.length m (M6 m);have y:=AI ps m.length m;have comp:∀ i,kq nx m i->(iS ps m.length m).getD i false=true:=by
  intro i d
  induction d with
  | base n=>exact OU ps _ m (R8.1 n)
  | step d z x A =>
   rename_i a b l;have r:=(h.2.2 a b).1 ⟨l,z,x⟩;have k:=h.2.1 _ r;have n:b<N:=by have:=k.2.2;simp only at this;omega
   have:=Wt (p:=((a:Int),(b:Int))) (on:=iS ps m.length m) r (by simpa using A) (by simp;omega);rw[f]at this;simpa using this
 apply Bb
 .simp[iN,y]
 .intro i t B;have o:i<N:=by omega
  have s:(iS ps m.length m)[i]=(iS ps m.length m).getD i false:=by rw[eV,dO t];rfl
  have j:(iS ps m.length m).getD i false=true ↔ kq nx m i:=by
   constructor
   .exact PZ h _ m (λi o=>.base (R8.2 o)) i
   .exact comp i
  rw[s];simp only[iN,Ce,GI];by_cases d:kq nx m i
  .rw[j.2 d];simp[d]
  .cases u:(iS ps m.length m).getD i false with
   | true=>exact absurd (j.1 u) d
   | false=>simp[d]
theorem Mq{g h:aE->Int}{n:Nat}:∀ {K:List aE} (_:∀ x∈K,0<=g x/\g x<(n:Int)) {ls:List (List Int)},ls.length=n->∀ (i:Nat) (j:Int),(∃ l,(K.foldl (λls x=>qC ls (g x) (h x)) ls)[i]?=some l/\j∈l) ↔ (∃ l,ls[i]?=some l/\j∈l)\/∃ x∈K,g x=i/\h x=j
 | [],_,ls,_,i,j=>by simp
 | x::K,k,ls,s,i,j=>by
  rw[C8,Mq (K:=K) (λy d=>k y (by simp[d])) (ls:=qC ls (g x) (h x)) (by rw[P1,s]) i j];obtain⟨a,r⟩:∃ a:Nat,g x=(a:Int):=⟨(g x).toNat,by have:=k x (by simp);omega⟩;have f:a<ls.length:=by have:=k x (by simp);omega
  have b:(∃ l,(qC ls (g x) (h x))[i]?=some l/\j∈l) ↔ (∃ l,ls[i]?=some l/\j∈l)\/(g x=i/\h x=j):=by
   unfold qC;rw[r,kZ,vK];by_cases m:a=i
   .subst m;rw[aX rfl,aX f,eV,dO f];simp only[cD,xW,exists_eq_left',dN,iT,true_and];constructor
    .rintro(h|h)
     .exact .inl h
     .exact .inr h.symm
    .rintro(h|h)
     .exact .inl h
     .exact .inr h.symm
   .rw[bD m];constructor
    .exact .inl
    .rintro(h|⟨h,_⟩)
     .exact h
     .exact absurd (by omega) m
  rw[b];constructor
  .rintro((h|⟨o,p⟩)|⟨y,d,h⟩)
   .exact .inl h
   .exact .inr ⟨x,by simp,o,p⟩
   .exact .inr ⟨y,by simp[d],h⟩
  .rintro(h|⟨y,d,h⟩)
   .exact .inl (.inl h)
   .obtain rfl|d:=cI.1 d
    .exact .inl (.inr h)
    .exact .inr ⟨y,d,h⟩
def OQ(n i:Nat)(j:Int):¬ ∃ l,(List.replicate n ([]:List Int))[i]?=some l/\j∈l:=by
 rintro⟨l,h,b⟩;rw[Jm]at h;split at h
 .cases h;cases b
 .cases h
def nX(K:List aE):List (Int × Int):=K.map λx=>(x.f,x.t)
def rQ(ps:List (Int × Int)):List (Int × Int):=ps.map λp=>(p.2,p.1)
def Y1{K:List aE}{n:Nat}(d:∀ x∈K,x.fit n):PN (nX K) (s5 K n) n:=by
 refine⟨HO K n,λp m=>?_,λi j=>?_⟩
 .obtain⟨x,b,rfl⟩:=cA.1 m;exact d x b
 .unfold s5;rw[Mq (g:=(·.f)) (h:=(·.t)) (λx b=>(d x b).1) (by simp) i j];constructor
  .rintro(h|⟨x,b,k,l⟩)
   .exact absurd h (OQ n i j)
   .exact cA.2 ⟨x,b,by rw[k,l]⟩
  .intro h;obtain⟨x,b,e⟩:=cA.1 h;exact .inr ⟨x,b,congrArg Prod.fst e,congrArg Prod.snd e⟩
def Y0{K:List aE}{n:Nat}(d:∀ x∈K,x.fit n):PN (rQ (nX K)) (tG K n) n:=by
 refine⟨HF K n,λp o=>?_,λi j=>?_⟩
 .obtain⟨q,k,rfl⟩:=cA.1 o;obtain⟨x,b,rfl⟩:=cA.1 k;exact⟨(d x b).2,(d x b).1⟩
 .unfold tG;rw[Mq (g:=(·.t)) (h:=(·.f)) (λx b=>(d x b).2) (by simp) i j];constructor
  .rintro(h|⟨x,b,l,m⟩)
   .exact absurd h (OQ n i j)
   .exact cA.2 ⟨(x.f,x.t),cA.2 ⟨x,b,rfl⟩,by simp only[l,m]⟩
  .intro h;obtain⟨q,k,e⟩:=cA.1 h;obtain⟨x,b,rfl⟩:=cA.1 k;exact .inr ⟨x,b,congrArg Prod.fst e,congrArg Prod.snd e⟩
def gD{α : Type}:List Bool->List α -> List α
 | b::m,x::l=>if b=true then x::gD m l else gD m l
 | _,_=>[]
theorem F3{α : Type}:∀ {m:List Bool} {l:List α} {k:Nat} (h:k<m.length) (d:k<l.length),gD (m.take (k+1)) (l.take (k+1))=gD (m.take k) (l.take k)++(if m[k]=true then[l[k]]else[])
 | b::m,x::l,0,_,_=>by cases b<;>simp[gD]
 | b::m,x::l,k+1,h,d=>by have f:=F3 (m:=m) (l:=l) (k:=k) (by simpa using h) (by simpa using d);simp only[List.take_succ_cons,gD,List.getElem_cons_succ]at f ⊢;cases b<;>simp_all
theorem CM{α : Type}:∀ {m:List Bool} {l:List α},m.length=l.length->(gD m l).length=m.count true
 | [],[],_=>rfl
 | b::m,x::l,h=>by have d:=CM (m:=m) (l:=l) (by simpa using h);cases b<;>simp[gD,d]
theorem xP{α : Type}:∀ {m:List Bool} {l:List α} {x : α},x∈gD m l->x∈l
 | b::m,y::l,x,h=>by
  cases b with
  | true =>
   obtain rfl|h:=cI.1 (show x∈y::gD m l from h)
   .simp
   .simp[xP h]
  | false=>simp[xP (show x∈gD m l from h)]
 | [],_,_,h=>by cases h
 | _::_,[],_,h=>by cases h
def gI(m:List Bool)(k:Nat):Nat:=(m.take k).count true
def K'{m:List Bool}{k:Nat}(h:k<m.length):gI m (k+1)=gI m k+(m[k]).toNat:=by unfold gI;rw[ed h,List.count_append];cases m[k]<;>simp
def M7(m:List Bool)(k:Nat):gI m k<=k:=dM Jl (by rw[fY];omega)
def cW(m:List Bool):List Int:=(List.range m.length).map λj=>if m.getD j false=true then((gI m j:Nat):Int)else 0
def BM(m:List Bool):(cW m).length=m.length:=by simp[cW]
theorem HW{m:List Bool}{k:Nat}(h:k<m.length)(b:k<(cW m).length):(cW m)[k]=if m[k]=true then((gI m k:Nat):Int)else 0:=by simp only[cW,Ce,GI];rw[eV,dO h];rfl
def Pg{α : Type}(d : α)(l:List α){k:Nat}(h:k<l.length)(hd:l[k]=d):lu d l (k+1)=lu d l k:=by
 rw[<- FN d l h,hd];apply E6;intro i;rw[vK];split
 .rename_i b;subst b;rw[FM d l (by omega),aX h];unfold lu;rw[qG (by rw[fY];omega)];have f:k - (l.take k).length=0:=by rw[fY];omega
  rw[f,Jm,aX (by omega)]
 .rfl
def x7(m:List Bool)(x:aE):Bool:=m.getD x.f.toNat false&&m.getD x.t.toNat false
def rX(m:List Bool)(x:aE):aE:=⟨(cW m).getD x.f.toNat 0,x.i,x.o,(cW m).getD x.t.toNat 0,x.w⟩
def nE(m:List Bool)(l:List aE):List aE:=(l.filter (x7 m)).map (rX m)
def Tq(m:List Bool){l:List aE}{k:Nat}(h:k<l.length):nE m (l.take (k+1))=nE m (l.take k)++(if x7 m l[k]=true then[rX m l[k]]else[]):=by
 unfold nE;rw[ed h,tW,sS]
 congr 1
 cases b:x7 m l[k]<;>simp[b]
def Sc(m:List Bool)(l:List aE):(nE m l).length<=l.length:=by unfold nE;rw[ra];exact kB _ _
theorem Sf{α β : Type}{f : α -> Option β}:∀ {l:List α} {r:List β},l.length=r.length->(∀ (i:Nat) (x : α) (y : β),l[i]?=some x->r[i]?=some y->f x=some y)->l.mapM f=some r
 | [],[],_,_=>rfl
 | [],_::_,h,_=>by simp at h
 | _::_,[],h,_=>by simp at h
 | x::l,y::r,h,k=>by have d:=k 0 x y rfl rfl;have n:=Sf (l:=l) (r:=r) (by simpa using h) λi a b j m=>k (i+1) a b (by simpa using j) (by simpa using m);simp[List.mapM_cons,d,n]
theorem Rl(n:Nat)(st:St)(s g off b:Nat):bH st (n+1) (.own s g off b)=match st.obj s g with
  | some o=>if off+b<=o.es.length then(((o.es.drop off).take b).mapM (bH st n)).map .sl else none
  | none=>none:=rfl
theorem S0{F s n:Nat}{C:List AV}{H:List (Option bI)}{ls:List (List Int)}(h:iG F C H ls)(hn:ls.length=n){st:St}(m:st.obj s 0=some ⟨1,C⟩)(o:∀ g,st.obj F g=H[g]?.getD none) :
  bH st bF (.own s 0 0 n)=some (.sl (ens ls)):=by
 rw[P7,m];simp only[Ae,sG];rw[aX (by rw[h.len,hn];exact dE _),eZ (by rw[h.len,hn];exact dE _)];have:C.mapM (bH st 5)=some (ens ls):=by
  refine Sf (by simp[-gW,h.len,ens]) λi x y f l=>?_;have b:i<ls.length:=by rw[<- h.len];exact(iU.1 f).1
  have j:y=.sl (ens ls[i]):=by simp[-gW,ens,b]at l;exact l.symm
  subst j;obtain⟨d,k⟩|⟨g,d,k⟩:=h.cell i _ (dO b)
  .rw[f]at d;cases d;rw[k];rfl
  .rw[f]at d;cases d;rw[Rl,o,k];simp only[xW,Ae,sG,vE,dE,cH];rw[eZ (Ba (vE _)),Ib];rfl
 rw[this];rfl
def R9{F s n:Nat}{C:List AV}{H:List (Option bI)}{ls:List (List Int)}(h:iG F C H ls){st:St}(i:st.obj s 0=some ⟨1,C⟩)(j:∀ g,st.obj F g=H[g]?.getD none) :
  ∀ d∈aS st bF (.own s 0 0 n),d.1=s\/d.1=F:=by
 rw[Xl,i];intro d hd;obtain rfl|hd:=cI.1 hd
 .exact .inl rfl
 .obtain⟨c,b,hd⟩:=kC.1 hd;obtain rfl|⟨g,m,rfl⟩:=h.cells c b
  .simp at hd
  .rw[Xm]at hd;obtain rfl|hd:=cI.1 hd
   .exact .inr rfl
   .rw[j]at hd;cases f:H[g]? with
    | none=>rw[f]at hd;cases hd
    | some o =>
     rw[f]at hd;cases o with
     | none=>cases hd
     | some o =>
      obtain⟨l,rfl⟩:=h.Cs _ (wM f) o rfl;obtain⟨c,b,hd⟩:=kC.1 hd;obtain⟨v,_,rfl⟩:=cA.1 b;rw[T5]at hd;cases hd
def yH(A B:List Bool)(n k:Nat):St:=⟨[(3,.own 19 0 0 n),(4,.own 25 0 0 n),(120,f8 n),(121,f8 k)],[(19,[some ⟨1,aK A⟩]),(25,[some ⟨1,aK B⟩]),(aO,[none])]⟩
def fG(A B:List Bool):List Bool:=List.zipWith (λa b=>a&&b) A B
def pH(A B:List Bool)(k:Nat):List Bool:=(fG A B).take k++A.drop k
def ycz{A B:List Bool}(h:A.length=B.length){k:Nat}(d:k<A.length):(pH A B k).set k (A[k]&&B[k]'(h ▸ d))=pH A B (k+1)/\(pH A B k)[k]?=some A[k]/\(pH A B k).length=A.length:=by
 have i:(fG A B).length=A.length:=by simp[fG,h]
 have f:k<(fG A B).length:=by omega
 have b:((fG A B).take k).length=k:=by rw[fY];omega
 unfold pH;refine⟨?_,?_,by simp;omega⟩
 .rw[C' _ _ (by omega),b,Db,vJ d,G0,ed f,sI];have:(fG A B)[k]=(A[k]&&B[k]'(h ▸ d)):=by simp[fG]
  rw[this];rfl
 .rw[qG (by omega),b,Db,Cm,uO,dO d]
def W4{A B:List Bool}{n:Nat}(x:A.length=n)(C:B.length=n)(hn:n<=100000){Q:Exit->St->Prop}{ks:List Kt}{st:St}(E:aA st (yH A B n 0))
  (F:gA P 139 Q (fO 4 ks) 4 (yH (fG A B) B n n)):vL P 139 Q g.se ks st:=by
 refine b6 (S:=λk:Nat=>yH (pH A B k) B n k) (I:=λk=>k<=n) (m:=λk=>n - k) 0 (by simpa[pH]using E) (by omega) ?_;rintro k L R r M s;have u:=aZ k;by_cases i:k<n
 .have l:k<A.length:=by omega
  have o:k<B.length:=by omega
  obtain⟨H,t,J⟩:=ycz (x.trans C.symm) l;have d:∀ f,aA f (yH (pH A B (k+1)) B n (k+1))->R .normal f:=λf h=>r (k+1) f h (by omega) (by omega);rw[<- H]at d;have z:B[k]?=some B[k]:=dO o;generalize pH A B k=D at *
  have j:D.length=n:=J.trans x;generalize A[k]=a at *
  generalize B[k]=b at *
  simp[g.se,yH,i];refine⟨by omega,eD t ?_⟩;cases a with
  | true =>
   simp[i];refine⟨by omega,eD z ?_⟩;simp[j,u];refine eD t (d _ (aA.to [3,4,120,121] [((19,0),19),((25,0),25)] ?_));rw[CZ D k b (v:=i4 b) rfl];simp only[GN];generalize D.set k b=y;simp[yH,aO]
  | false =>
   simp[i,j,u];refine eD t (d _ (aA.to [3,4,120,121] [((19,0),19),((25,0),25)] ?_));rw[CZ D k false (v:=i4 false) rfl];simp only[Bool.false_and];generalize D.set k false=y;simp[yH,aO]
 .have:k=n:=by omega
  subst this;have G:pH A B k=fG A B:=by unfold pH;rw[eZ (by simp[fG];omega),xY (by omega),kY]
  rw[G];simp[g.se,yH];refine s _ _ ?_;simpa[yH,aO]using F
def kV(r:aC)(l:List GW):List Bool:=l.map λw=>!decide (w=r.zero)
def Tv(r:aC)(l:List GW)(y:l.length<=1000000)(hs:∀ w∈l,w.sm 1048576):zS 87 [enc r,.sl (ens l)] (.sl (ens (kV r l))):=by
 refine Sp.vz c.nn λ_=>?_;simp[g.nn]
 refine b6 (S:=λk:Nat=>aB [(1,hW l),(2,i0 2),(5,.own 5 0 0 (kV r (l.take k)).length),(6,f8 k)] [(2,⟨2,[.p (enc r)]⟩),(5,⟨1,aK (kV r (l.take k))⟩)]) (I:=λk=>k<=l.length) (m:=λk=>l.length - k) 0
  (aA.nl 5 77 1 rfl (aA.to [1,2,5,6] [((2,0),2),((77,0),5)] (by simp[aB,kV]))) (by omega) ?_
 rintro k x R i z s;have n:=aZ k;by_cases b:k<l.length
 .have t:=Gm r l[k] (hs _ (bU b));have o:(kV r (l.take k)).length=k:=by simp[kV];omega
  have j:kV r (l.take (k+1))=kV r (l.take k)++[!decide (l[k]=r.zero)]:=by unfold kV;rw[ed b,sS];rfl
  have f:∀ d,aA d (aB [(1,hW l),(2,i0 2),(5,.own 5 0 0 (kV r (l.take (k+1))).length),(6,f8 (k+1:Nat))] [(2,⟨2,[.p (enc r)]⟩),(5,⟨1,aK (kV r (l.take (k+1)))⟩)])->R .normal d:=λd h=>i (k+1) d h (by omega) (by omega);rw[j]at f;generalize kV r (l.take k)=A at *
  simp[g.tx,aB,b];refine bK b ?_;generalize l[k]'b=w at *
  refine aW t ?_;generalize decide (w=r.zero)=u at *
  simp[n,eL];refine⟨by omega,f _ (aA.to [1,2,5,6] [((2,0),2),((22,0),5)] ?_)⟩;simp[aB]
 .have:k=l.length:=by omega
  subst this;simp[g.tx,aB];refine s _ _ ?_;simp
def ycu(A B:List Bool)(ps:List (Int × Int))(E:A.length<=100000)(x:B.length=A.length)(hp:ps.length<=100000)(h:∀ p∈ps,(0<=p.1/\p.1<A.length)/\0<=p.2/\p.2<A.length) :
  zS 86 [.sl (ens A),.sl (ens B),.sl (ens ps)] (.sl (ens (fG (iS ps A.length A) (iS (rQ ps) B.length B)))):=by
 have C:=QM A ps E hp h;have D:=QM B (rQ ps) (by omega) (by simp[rQ];omega) λp G=>by obtain⟨q,t,rfl⟩:=cA.1 G;have:=h q t;rw[x];exact⟨this.2,this.1⟩
 have J:(iS ps A.length A).length=A.length:=AI _ _ _;have L:(iS (rQ ps) B.length B).length=A.length:=by rw[AI,x]
 generalize iS ps A.length A=X at *
 generalize iS (rQ ps) B.length B=Y at *
 refine Sp.vz c.nm λ_=>?_;simp[g.nm]
 refine b6 (S:=λk:Nat=>aB [(0,hW A),(1,hW B),(2,hW ps),(7,.own 7 0 0 (rQ (ps.take k)).length),(8,f8 k)] [(7,⟨2,aK (rQ (ps.take k))⟩)]) (I:=λk=>k<=ps.length) (m:=λk=>ps.length - k) 0
  (aA.nl 7 77 2 rfl (aA.to [0,1,2,7,8] [((77,0),7)] (by simp[aB,rQ]))) (by omega) ?_
 rintro k F R n H u;have r:=aZ k;by_cases i:k<ps.length
 .have s:(rQ (ps.take k)).length=k:=by simp[rQ];omega
  have o:rQ (ps.take (k+1))=rQ (ps.take k)++[(ps[k].2,ps[k].1)]:=by unfold rQ;rw[ed i,sS];rfl
  have d:∀ f,aA f (aB [(0,hW A),(1,hW B),(2,hW ps),(7,.own 7 0 0 (rQ (ps.take (k+1))).length),(8,f8 (k+1:Nat))] [(7,⟨2,aK (rQ (ps.take (k+1)))⟩)])->R .normal f:=λf h=>n (k+1) f h (by omega) (by omega);rw[o]at d;generalize rQ (ps.take k)=T at *
  simp[g.tv,aB,i,r,eL];refine bK i (bK i ?_);generalize ps[k]'i=q at *
  refine⟨by omega,d _ (aA.to [0,1,2,7,8] [((32,0),7)] ?_)⟩;simp[aB]
 .have:k=ps.length:=by omega
  subst this;rw[eZ (dE _)];simp[g.tv,aB];refine u _ _ ?_;simp;refine aW C ?_;simp;refine aW D ?_;simp[aI]
  refine b6 (S:=λk:Nat=>aB [(9,hW X),(10,hW Y),(11,.own 11 0 0 (fG (X.take k) (Y.take k)).length),(12,f8 k)] [(11,⟨1,aK (fG (X.take k) (Y.take k))⟩)]) (I:=λk=>k<=A.length) (m:=λk=>A.length - k) 0
   (aA.nl 11 77 1 rfl (aA.to [9,10,11,12] [((77,0),11)] (by simp[aB,fG]))) (by omega) ?_
  rintro k F R n H u;have r:=aZ k;by_cases i:k<A.length
  .have j:k<X.length:=by omega
   have l:k<Y.length:=by omega
   have s:(fG (X.take k) (Y.take k)).length=k:=by simp[fG];omega
   have o:fG (X.take (k+1)) (Y.take (k+1))=fG (X.take k) (Y.take k)++[X[k]&&Y[k]]:=by unfold fG;rw[ed j,ed l,List.zipWith_append (by simp;omega)];rfl
   have d:∀ f,aA f (aB [(9,hW X),(10,hW Y),(11,.own 11 0 0 (fG (X.take (k+1)) (Y.take (k+1))).length),(12,f8 (k+1:Nat))] [(11,⟨1,aK (fG (X.take (k+1)) (Y.take (k+1)))⟩)])->R .normal f:=λf h=>n (k+1) f h (by omega) (by omega);rw[o]at d;generalize fG (X.take k) (Y.take k)=T at *
   have y:X[k]?=some X[k]:=dO j;have z:Y[k]?=some Y[k]:=dO l;generalize X[k]'j=a at *
   generalize Y[k]'l=b at *
   simp[g.tw,aB,j];refine eD y ?_;cases a with
   | true =>
    simp;refine eD z ?_;simp[r];refine⟨by omega,d _ (aA.to [9,10,11,12] [((57,0),11)] ?_)⟩;simp[aB]
   | false =>
    simp[r,eL];refine⟨by omega,d _ (aA.to [9,10,11,12] [((57,0),11)] ?_)⟩;simp[aB]
  .have:k=A.length:=by omega
   subst this;rw[eZ (by omega),eZ (by omega)];simp[g.tw,aB,J];refine u _ _ ?_;simp
def Dx(F:eg):List Bool:=fG (iS (nX F.aD) (kV F.ring F.aM).length (kV F.ring F.aM)) (iS (rQ (nX F.aD)) (kV F.ring F.fin).length (kV F.ring F.fin))
def Oq(F:eg)(m:List Bool)(N:Nat):eg:=⟨F.ring,F.i,F.o,(gI m N:Nat),gD m F.aM,gD m F.fin,nE m F.aD⟩
def zTT:AV:=.agg [.p (.int .i64 0),.nil,.p (.int .i64 0),.p (.int .i64 0),.p (.int .i64 0),.nil,.nil,.nil]
def Br(F:eg)(k:Nat):St:=aB [(1,i0 1),(2,i0 2),(3,.own 3 0 0 (nX (F.aD.take k)).length),(4,f8 k)] [(1,⟨8,[.p (enc F)]⟩),(2,⟨8,[zTT]⟩),(3,⟨2,aK (nX (F.aD.take k))⟩)]
def x9(F:eg)(m:List Bool)(N:Nat)(A B:List GW)(D:List Int)(cm k:Nat):St :=
 aB [(1,i0 1),(2,i0 2),(5,hW m),(6,i0 6),(7,.own 7 0 0 N),(8,f8 k)]
  [(1,⟨8,[.p (enc F)]⟩),(2,⟨8,[zTT]⟩),(6,⟨8,[.agg [f8 F.ring.kind,hW F.ring.parts,f8 F.i,f8 F.o,f8 cm,.own 21 0 0 A.length,.own 22 0 0 B.length,.nil]]⟩),
  (7,⟨1,aK D⟩),(21,⟨8,aK A⟩),(22,⟨8,aK B⟩)]
def x8(F:eg)(m:List Bool)(N:Nat)(A B:List GW)(D:List Int)(cm:Nat)(C:List aE)(k:Nat):St :=
 aB [(1,i0 1),(2,i0 2),(5,hW m),(6,i0 6),(7,.own 7 0 0 N),(9,f8 k)]
  [(1,⟨8,[.p (enc F)]⟩),(2,⟨8,[zTT]⟩),(6,⟨8,[.agg [f8 F.ring.kind,hW F.ring.parts,f8 F.i,f8 F.o,f8 cm,.own 21 0 0 A.length,.own 22 0 0 B.length,.own 23 0 0 C.length]]⟩),
  (7,⟨1,aK D⟩),(21,⟨8,aK A⟩),(22,⟨8,aK B⟩),(23,⟨12,aK C⟩)]
def ygi{F:eg}(y:F.aD.length<=100000){Q:Exit->St->Prop}{ks:List Kt}{st:St}(s:aA st (Br F 0))(u:gA P 142 Q (fO 0 ks) 0 (Br F F.aD.length)):vL P 142 Q g.rn ks st:=by
 refine b6 (S:=λk:Nat=>Br F k) (I:=λk=>k<=F.aD.length) (m:=λk=>F.aD.length - k) 0 s (by omega) ?_;rintro k x R l z o;have p:=aZ k;by_cases d:k<F.aD.length
 .have r:(nX (F.aD.take k)).length=k:=by simp[nX];omega
  have n:nX (F.aD.take (k+1))=nX (F.aD.take k)++[(F.aD[k].f,F.aD[k].t)]:=by unfold nX;rw[ed d,sS];rfl
  have b:∀ i,aA i (Br F (k+1))->R .normal i:=λi h=>l (k+1) i h (by omega) (by omega);unfold Br at b ⊢;rw[n]at b;generalize nX (F.aD.take k)=T at *
  simp[g.rn,aB,d,zTT];refine bK d (bK d ?_);generalize F.aD[k]'d=q at *
  simp[p];refine⟨by omega,b _ (aA.to [1,2,3,4] [((1,0),1),((2,0),2),((33,0),3)] ?_)⟩;simp[aB,zTT]
 .have:k=F.aD.length:=by omega
  subst this;simp[g.rn,Br,aB,zTT];refine o _ _ ?_;simpa[Br,aB,zTT]using u
def ygh{F:eg}{N:Nat}(hN:N<=100000)(j:F.st=N)(li:F.aM.length=N)(lf:F.fin.length=N){m:List Bool}(U:m.length=N){Q:Exit->St->Prop}{ks:List Kt}{st:St}(E:aA st (x9 F m N [] [] (lu 0 (cW m) 0) 0 0))
  (G:gA P 142 Q (fO 2 ks) 2 (x9 F m N (gD m F.aM) (gD m F.fin) (cW m) (gI m N) N)):vL P 142 Q g.qu ks st:=by
 have L:(cW m).length=N:=by rw[BM,U]
 refine b6 (S:=λk:Nat=>x9 F m N (gD (m.take k) (F.aM.take k)) (gD (m.take k) (F.fin.take k)) (lu 0 (cW m) k) (gI m k) k) (I:=λk=>k<=N) (m:=λk=>N - k) 0 (by simpa[gD,gI]using E) (by omega) ?_;rintro k hk R u J x;have H:=aZ k;by_cases t:k<N
 .have d:∀ o,aA o (x9 F m N (gD (m.take (k+1)) (F.aM.take (k+1))) (gD (m.take (k+1)) (F.fin.take (k+1))) (lu 0 (cW m) (k+1)) (gI m (k+1)) (k+1))->R .normal o:=λo h=>u (k+1) o h (by omega) (by omega);have i:k<m.length:=by omega
  have s:k<F.aM.length:=by omega
  have r:k<F.fin.length:=by omega
  have O:=M7 m k;have M:IntKind.i64.wrap ((gI m k:Int)+1)=((gI m k+1:Nat):Int):=cT;rw[F3 i s,F3 i r,K' i]at d;have X:(gD (m.take k) (F.aM.take k)).length<=100000:=by rw[CM (by simp;omega)];exact dM Jl (by rw[fY];omega)
  have Y:(gD (m.take k) (F.fin.take k)).length<=100000:=by rw[CM (by simp;omega)];exact dM Jl (by rw[fY];omega)
  have z:=FM 0 (cW m) (k:=k) (by omega);have f:=FN 0 (cW m) (k:=k) (by omega);have n:=Pg 0 (cW m) (k:=k) (by omega);rw[HW i]at f n;generalize gD (m.take k) (F.aM.take k)=A at *
  generalize gD (m.take k) (F.fin.take k)=B at *
  have y:m[k]?=some m[k]:=dO i;generalize m[k]'i=b at *
  cases b with
  | false =>
   rw[n rfl]at d;simp only[gP,fQ,kY,Bool.toNat_false,uO]at d;clear u x J E G f n;generalize lu 0 (cW m) k=D at *
   generalize gI m k=C at *
   simp[g.qu,x9,aB,j,t,zTT];refine eD y ?_;simp[H];refine d _ (aA.to [1,2,5,6,7,8] [((1,0),1),((2,0),2),((6,0),6),((7,0),7),((21,0),21),((22,0),22)] ?_);simp[x9,aB,zTT,j]
  | true =>
   simp only[cH,Bool.toNat_true]at d f;rw[<- f]at d;clear u x J E G f n;rw[L]at z;generalize lu 0 (cW m) k=D at *
   generalize gI m k=C at *
   simp[g.qu,x9,aB,j,t,zTT];refine eD y ?_;simp[H,M,t,z];refine bK (by omega:k<D.length) (bK s ⟨by omega,bK r ⟨by omega,d _ (aA.to [1,2,5,6,7,8] [((1,0),1),((2,0),2),((6,0),6),((7,0),7),((83,0),21),((92,0),22)] ?_)⟩⟩);rw[CZ D k ((C:Nat):Int) (v:=f8 C) rfl];generalize D.set k ((C:Nat):Int)=W;generalize F.aM[k]'s=w1 at *
   generalize F.fin[k]'r=w2 at *
   simp[x9,aB,zTT,j]
 .have:k=N:=by omega
  subst this;have V:lu 0 (cW m) k=cW m:=by rw[<- L];exact HU 0 (cW m)
  rw[V,List.take_of_length_le (by omega),List.take_of_length_le (by omega),List.take_of_length_le (by omega)];simp[g.qu,x9,aB,j,zTT];refine x _ _ ?_;simpa[x9,aB,zTT,j]using G
def ygg{F:eg}{N:Nat}(hN:N<=100000)(hl:F.aD.length<=3000000){m:List Bool}(Y:m.length=N)(X:∀ x∈F.aD,x.fit N){A B:List GW}{cm:Nat}{Q:Exit->St->Prop}{ks:List Kt}{st:St}(L:aA st (x8 F m N A B (cW m) cm [] 0))
  (M:gA P 142 Q (fO 4 ks) 4 (x8 F m N A B (cW m) cm (nE m F.aD) F.aD.length)):vL P 142 Q g.rp ks st:=by
 have lT:(cW m).length=N:=by rw[BM,Y]
 refine b6 (S:=λk:Nat=>x8 F m N A B (cW m) cm (nE m (F.aD.take k)) k) (I:=λk=>k<=F.aD.length) (m:=λk=>F.aD.length - k) 0 (by simpa[nE]using L) (by omega) ?_;rintro k hk R r hr s;have u:=aZ k;by_cases d:k<F.aD.length
 .have b:∀ l,aA l (x8 F m N A B (cW m) cm (nE m (F.aD.take (k+1))) (k+1))->R .normal l:=λl h=>r (k+1) l h (by omega) (by omega);have hC:(nE m (F.aD.take k)).length<=3000000:=dM (Sc _ _) (by rw[fY];omega);rw[Tq m d]at b;generalize nE m (F.aD.take k)=C at *
  obtain⟨⟨f0,f1⟩,t0,t1⟩:=X _ (bU d);clear r s hr L M;simp[g.rp,x8,aB,d,zTT];refine bK d ?_;generalize F.aD[k]'d=x at *
  obtain⟨f,n⟩:∃ f:Nat,x.f=(f:Int):=⟨x.f.toNat,by omega⟩;obtain⟨q,p⟩:∃ q:Nat,x.t=(q:Int):=⟨x.t.toNat,by omega⟩;have y:f<N:=by omega
  have z:q<N:=by omega
  have E:m[f]?=some m[f]:=dO (by omega);have G:m[q]?=some m[q]:=dO (by omega);have H:(cW m)[f]?=some (cW m)[f]:=dO (by omega);have J:(cW m)[q]?=some (cW m)[q]:=dO (by omega);have V:x7 m x=(m[f]&&m[q]):=by unfold x7;rw[n,p,kZ,kZ,eV,eV,E,G];rfl
  have W:rX m x=⟨(cW m)[f],x.i,x.o,(cW m)[q],x.w⟩:=by unfold rX;rw[n,p,kZ,kZ,eV,eV,H,J];rfl
  rw[V,W]at b;generalize m[f]=O at *
  generalize m[q]=U at *
  generalize (cW m)[f]=n1 at *
  generalize (cW m)[q]=n2 at *
  generalize cW m=D at *
  rw[n,p];simp;refine eD E ?_;cases O with
  | false =>
   simp only[Bool.false_and,gP,fQ,kY]at b;simp[u];refine b _ (aA.to [1,2,5,6,7,9] [((1,0),1),((2,0),2),((6,0),6),((7,0),7),((21,0),21),((22,0),22),((23,0),23)] ?_);simp[x8,aB,zTT]
  | true =>
   simp;refine eD G ?_;cases U with
   | false =>
    simp only[Bool.and_false,gP,fQ,kY]at b;simp[u];refine b _ (aA.to [1,2,5,6,7,9] [((1,0),1),((2,0),2),((6,0),6),((7,0),7),((21,0),21),((22,0),22),((23,0),23)] ?_);simp[x8,aB,zTT]
   | true =>
    simp only[GU,cH]at b;simp[y,z,lT];refine eD H (eD J ?_);simp[u];refine⟨by omega,b _ (aA.to [1,2,5,6,7,9] [((1,0),1),((2,0),2),((6,0),6),((7,0),7),((21,0),21),((22,0),22),((139,0),23)] ?_)⟩;simp[x8,aB,zTT]
 .have:k=F.aD.length:=by omega
  subst this;rw[List.take_of_length_le (Nat.le_refl _)];simp[g.rp,x8,aB,zTT];refine s _ _ ?_;simpa[x8,aB,zTT]using M
def Xo(Z:eg)(N:Nat)(j:N<=100000)(b:Z.st=N)(o:Z.aM.length=N)(n:Z.fin.length=N)(L:Z.aD.length<=100000)(k:∀ x∈Z.aD,x.fit N)(G:∀ w∈Z.aM,w.sm 1048576)(E:∀ w∈Z.fin,w.sm 1048576) :
  zS 36 [enc Z] (enc (Oq Z (Dx Z) N)):=by
 have l:(kV Z.ring Z.aM).length=N:=by simp[kV,o]
 have D:(kV Z.ring Z.fin).length=N:=by simp[kV,n]
 have H:=Tv Z.ring Z.aM (by omega) G;have I:=Tv Z.ring Z.fin (by omega) E;have vb:=ycu (kV Z.ring Z.aM) (kV Z.ring Z.fin) (nX Z.aD) (by omega) (by omega) (by simp[nX];omega) λp y=>by obtain⟨x,z,rfl⟩:=cA.1 y;rw[l];exact k x z
 have h:fG (iS (nX Z.aD) (kV Z.ring Z.aM).length (kV Z.ring Z.aM)) (iS (rQ (nX Z.aD)) (kV Z.ring Z.fin).length (kV Z.ring Z.fin))=Dx Z:=rfl;rw[h]at vb;have f:(Dx Z).length=N:=by unfold Dx fG;rw[List.length_zipWith,AI,AI,l,D];exact Nat.min_self N
 generalize Dx Z=m at *
 generalize kV Z.ring Z.aM=A at *
 generalize kV Z.ring Z.fin=B at *
 clear h;refine Sp.vz c.jg λ_=>?_;simp[g.jg];refine ygi (F:=Z) (by omega) (aA.nl 3 77 2 rfl (aA.to [1,2,3,4] [((1,0),1),((2,0),2),((77,0),3)] ?_)) ?_
 .simp[Br,aB,zTT,nX]
 simp only[Br,aB,zTT,kK];generalize nX Z.aD=M at *
 simp;refine aW H ?_;simp;refine aW I ?_;simp[aI];refine aW vb ?_;simp[aI,b,eL];have C:aK (lu 0 (cW m) 0)=List.replicate N (f8 0):=by rw[Ii,BM,f,Ja];rfl
 have u:(cW m).length=N:=by rw[BM,f]
 refine⟨by omega,ygh (F:=Z) (N:=N) j b o n f ((aA.b5 (s0:=6) (g0:=0) (i:=5) (s:=77) (sz:=8) rfl).trans ((aA.b5 (s0:=6) (g0:=0) (i:=6) (s:=78) (sz:=8) rfl).trans (aA.to [1,2,5,6,7,8] [((1,0),1),((2,0),2),((6,0),6),((55,0),7),((77,0),21),((78,0),22)] ?_))) ?_⟩
 .simp only[x9,C];simp[aB,zTT,b]
 unfold Oq;generalize gD m Z.aM=r at *
 generalize gD m Z.fin=t at *
 simp[gA,fO,x9,aB,zTT,b];refine ygg (F:=Z) (N:=N) j (by omega) f k (A:=r) (B:=t) (cm:=gI m N) ((aA.b5 (s0:=6) (g0:=0) (i:=7) (s:=77) (sz:=12) rfl).trans (aA.to [1,2,5,6,7,9] [((1,0),1),((2,0),2),((6,0),6),((7,0),7),((21,0),21),((22,0),22),((77,0),23)] ?_)) ?_
 .simp[x8,aB,zTT,b]
 generalize nE m Z.aD=J at *
 simp[gA,fO,x8,aB,zTT]
def Ys{r:aC}(M:cQ r){n:Nat}{l:List aE}(h:∀ x∈l,M.mb n x.w/\x.w.aJ r)(k:Nat)(d:k<=l.length) :
  ∀ x∈nZ aE.key (lE r) id (l.take k),M.mb (kc aE.key (l.take k) x.key+n) x.w/\x.w.aJ r :=
 KD (key:=aE.key) (up:=lE r) (nw:=id) (λ_ _=>rfl) (λ_=>rfl) (Q:=λc x=>M.mb (c+n) x.w/\x.w.aJ r) (λh k=>⟨M.mono h.1 (by omega),h.2⟩) (λx a=>⟨M.mono (h x a).1 (by show n<=0+n;omega),(h x a).2⟩)
  (λc z x a _ b=>⟨by have:=M.plus b.2 (h x a).2 b.1 (M.mono (h x a).1 (by omega));exact M.mono this (by omega),(BU b.2 (h x a).2:(r.plus z.w x.w).aJ r)⟩) k d
def Yf{r:aC}{M:cQ r}(W:dB M)(l:List aE)(n B:Nat)(hn:B+n<=M.lim)(hB:∀ q,kc aE.key l q<=B)(hl:l.length<=100000)(h:∀ x∈l,M.mb n x.w/\x.w.aJ r) :
  zS 81 [enc r,.sl (ens l)] (.sl (ens (JP r l))):=by
 have V:=Ys M h;have y:∀ k q,kc aE.key (l.take k) q<=B:=λk q=>dM (HT _ _ _) (hB q);have U:=λk (u:k<=l.length)=>KE (key:=aE.key) (up:=lE r) (nw:=id) (λ_ _=>rfl) (λ_=>rfl) l k u;refine Sp.vz c.nh λ_=>?_;simp[g.nh]
 refine b6 (S:=λk:Nat=>aB [(1,hW l),(2,i0 2),(5,.own 1 0 0 (nZ aE.key (lE r) id (l.take k)).length),(6,f8 k)] [(2,⟨2,[.p (enc r)]⟩),(1,⟨12,aK (nZ aE.key (lE r) id (l.take k))⟩)]) (I:=λk=>k<=l.length) (m:=λk=>l.length - k) 0
  (aA.nl 5 77 12 rfl (aA.to [1,2,5,6] [((2,0),2),((77,0),1)] (by simp[nZ]))) (by omega) ?_
 rintro k X R a Z H;have K:=aZ k;have al:=U k X;have F:=V k X;generalize L:nZ aE.key (lE r) id (l.take k)=O at *
 by_cases u:k<l.length
 .have D:=h _ (bU u);have b:=Gt (key:=aE.key) (up:=lE r) (nw:=id) u;rw[L]at b;simp[g.tr,aB,u];refine bK u ?_
  try simp
  generalize l[k]=x at *
  refine aW (lQ r x.w ((W.pr (n:=n) (by omega) D.2 D.1).mono (by omega))) ?_;rw[Fv D.2];simp
  refine b6 (S:=λi:Nat=>aB [(1,hW l),(2,i0 2),(5,.own 1 0 0 O.length),(6,f8 k),(7,i0 3),(8,f8 i)] [(2,⟨2,[.p (enc r)]⟩),(1,⟨12,aK O⟩),(3,⟨12,[.p (enc x)]⟩)]) (I:=λi=>i<=O.length/\∀ j,(d:j<O.length)->j<i->O[j].key<x.key) (m:=λi=>O.length - i) 0
   (aA.to [1,2,5,6,7,8] [((2,0),2),((1,0),1),((7,0),3)] (by simp)) ⟨by omega,λj _ d=>by omega⟩ ?_
  rintro i ⟨j1,J⟩ R2 Q ag E;have G:=aZ i;by_cases f:i<O.length
  .simp[g.tq,aB,f];refine bK f ?_;refine aW (QB O[i] x) ?_;have C:eW O[i].key x.key<0 ↔ O[i].key<x.key:=CG (by simp[aE.key]);have z:eW O[i].key x.key=0 ↔ O[i].key=x.key:=CF (by simp[aE.key]);simp;refine⟨λY=>?_,λY=>E _ _ ?_⟩
   .rw[G];refine Q (i+1) _ (aA.to [1,2,5,6,7,8] [((2,0),2),((1,0),1),((3,0),3)] (by simp[aB])) ⟨by omega,λj d o=>?_⟩ (by omega);by_cases N:j<i
    .exact J j d N
    .have:j=i:=by omega
     subst this;exact C.1 Y
   .simp[f];refine bK f ?_;refine aW (QB O[i] x) ?_;simp;refine⟨λo=>?_,λo=>?_⟩
    .rw[R' f J (z.1 o)]at b;have t:=F _ (bU f);refine⟨f,bK f ?_⟩;refine aW (M.plusS (n:=kc aE.key (l.take k) O[i].key+n) (by have:=y k O[i].key;omega) t.2 D.2 t.1 (M.mono D.1 (by omega))) ?_;simp[K,f];refine bK f ?_;refine a (k+1) _ (aA.to [1,2,5,6] [((2,0),2),((1,0),1)] ?_) (by omega) (by omega);rw[b];simp[aB,lE]
    .rw[Tk f J (λh=>by have:=C.2 h;omega) (λh=>o (z.2 h))]at b;have ad:O.length<=100000:=by omega
     have hm:min i O.length=i:=by omega
     rw[hm];refine⟨by omega,⟨by omega,by omega⟩,by omega,by omega,⟨by omega,by omega⟩,?_⟩;rw[K];have A:i+1+(O.length - i)=O.length+1:=by omega
     refine a (k+1) _ (aA.to [1,2,5,6] [((2,0),2),((77,0),1)] ?_) (by omega) (by omega);rw[b];simp[aB,A];exact⟨by omega,by rw[eZ (by simp)]⟩
  .have:i=O.length:=by omega
   subst this;rw[Ti λj d=>J j d d]at b;simp[g.tq,aB];refine E _ _ ?_;simp;rw[K];refine⟨by omega,by omega,a (k+1) _ (aA.to [1,2,5,6] [((2,0),2),((77,0),1)] ?_) (by omega) (by omega)⟩;rw[b];simp[aB]
 .have:k=l.length:=by omega
  subst this;rw[eZ (dE _)]at L;have hf:JP r l=O.filter λx=>!decide (x.w=r.zero):=by rw[<- L];rfl
  simp[g.tr,aB];refine H _ _ ?_;simp;rw[hf];clear H Z a
  refine b6 (S:=λj:Nat=>aB [(2,i0 2),(5,.own 1 0 0 O.length),(9,.own 3 0 0 ((O.take j).filter λx=>!decide (x.w=r.zero)).length),(10,f8 j)] [(2,⟨2,[.p (enc r)]⟩),(1,⟨12,aK O⟩),(3,⟨12,aK ((O.take j).filter λx=>!decide (x.w=r.zero))⟩)]) (I:=λj=>j<=O.length) (m:=λj=>O.length - j) 0
   (aA.nl 9 78 12 rfl (aA.to [2,5,9,10] [((2,0),2),((1,0),1),((78,0),3)] (by simp))) (by omega) ?_
  rintro j j1 R a Z H;have G:=aZ j;by_cases d:j<O.length
  .have af:((O.take j).filter λx=>!decide (x.w=r.zero)).length<=j:=dM (kB _ _) (by rw[fY];omega);have s:(O.take (j+1)).filter (λx=>!decide (x.w=r.zero))=(O.take j).filter (λx=>!decide (x.w=r.zero))++if O[j].w=r.zero then[]else[O[j]]:=by rw[ed d,tW];by_cases t:O[j].w=r.zero<;>simp[t]
   generalize hT:(O.take j).filter (λx=>!decide (x.w=r.zero))=T at *
   have t:=F _ (bU d);simp[g.tt,aB,d];refine bK d ?_;refine aW (Gm r O[j].w ((W.pr (n:=kc aE.key (l.take l.length) O[j].key+n) (by have:=y l.length O[j].key;omega) t.2 t.1).mono (by omega))) ?_;by_cases o:O[j].w=r.zero
   .rw[decide_eq_true o];simp[G];rw[aX o]at s;refine a (j+1) _ (aA.to [2,5,9,10] [((2,0),2),((1,0),1),((3,0),3)] ?_) (by omega) (by omega);rw[s];simp[aB]
   .rw[decide_eq_false o];simp[d];rw[bD o]at s;refine bK d ?_;rw[G];refine⟨by omega,a (j+1) _ (aA.to [2,5,9,10] [((2,0),2),((1,0),1),((98,0),3)] ?_) (by omega) (by omega)⟩;rw[s];simp[aB]
  .have:j=O.length:=by omega
   subst this;simp[g.tt,aB];refine H _ _ ?_;simp
def Qx(a:eg){M:cQ a.ring}(h:dB M)(n B:Nat)(hn:B+n<=M.lim)(C:∀ q,kc aE.key a.aD q<=B)(G:a.aD.length<=100000)(F:∀ w∈a.aM,M.mb n w)(E:∀ w∈a.fin,M.mb n w)(D:∀ x∈a.aD,M.mb n x.w)(hp:a.ring.parts.length<=1000000)(hs:a.st<=1000000)(O:(a.aM.length:Int)=a.st)(N:(a.fin.length:Int)=a.st)
  (ci:∀ w∈a.aM,w.aJ a.ring) (cf:∀ w∈a.fin,w.aJ a.ring) (z:∀ x∈a.aD,x.w.aJ a.ring) :
  zS 30 [enc a] (enc a.nf):=by
 have y:=Yf h a.aD n B hn C G λx f=>⟨D x f,z x f⟩;rw[Yt]at y;have r:a.fin.length=a.aM.length:=by omega
 refine Sp.vz c.ar λ_=>?_;simp[g.ar];refine⟨by omega,?_⟩;refine aW y ?_;simp
 refine b6 (S:=λk:Nat=>aB [(1,i0 1),(2,i0 2),(3,i0 3),(4,f8 k)]
   [(1,⟨8,[.p (enc a)]⟩),(2,⟨8,[.agg [f8 0,.nil,f8 0,f8 0,f8 0,.nil,.nil,.nil]]⟩),
    (3,⟨8,[.agg [f8 a.ring.kind,.own 6 0 0 a.ring.parts.length,f8 a.i,f8 a.o,f8 a.st,.own 4 0 0 k,.own 5 0 0 k,.p (.sl (ens (cV a.ring a.aD)))]]⟩),(4,⟨8,aK (a.aM.take k)⟩),(5,⟨8,aK (a.fin.take k)⟩),(6,⟨1,aK a.ring.parts⟩)])
  (I:=λk=>k<=a.aM.length) (m:=λk=>a.aM.length - k) 0
  ((aA.b5 (s0:=3) (g0:=0) (i:=5) (s:=77) (sz:=8) rfl).trans ((aA.b5 (s0:=3) (g0:=0) (i:=6) (s:=78) (sz:=8) rfl).trans (aA.to [1,2,3,4] [((1,0),1),((2,0),2),((3,0),3),((77,0),4),((78,0),5),((11,0),6)] (by simp)))) (by omega) ?_
 rintro k K R l L f;have A:=aZ k;by_cases j:k<a.aM.length
 .have b:k<a.fin.length:=by omega
  have d:(k:Int)<a.st:=by omega
  simp[g.tg,aB,d];refine bK j ?_
  try simp
  have t:=bU j;have u:=bU b;refine aW (lQ a.ring a.aM[k] ((h.pr (n:=n) (by omega) (ci _ t) (F _ t)).mono (by omega))) ?_;rw[Fv (ci _ t)];simp;refine⟨⟨by omega,by omega⟩,bK b ?_⟩;refine aW (lQ a.ring a.fin[k] ((h.pr (n:=n) (by omega) (cf _ u) (E _ u)).mono (by omega))) ?_;rw[Fv (cf _ u)];have H:aK (a.aM.take (k+1))=aK (a.aM.take k)++[.p (enc a.aM[k])]:=by rw[ed j,sR];rfl
  have J:aK (a.fin.take (k+1))=aK (a.fin.take k)++[.p (enc a.fin[k])]:=by rw[ed b,sR];rfl
  simp[A];refine⟨⟨by omega,by omega⟩,l (k+1) _ (aA.to [1,2,3,4] [((1,0),1),((2,0),2),((3,0),3),((42,0),4),((54,0),5),((6,0),6)] ?_) (by omega) (by omega)⟩;simp[aB,H,J]
 .have:k=a.aM.length:=by omega
  subst this;have d:¬ (a.aM.length:Int)<a.st:=by omega
  simp[g.tg,aB,d];refine f _ _ ?_;simp[eg.nf,r];rw[eZ (by rw[fY];exact Nat.min_le_left _ _),eZ (by omega)]
def zB(t u:eg)(L:List aH)(k j:Nat):St :=
 aB [(2,i0 2),(3,i0 3),(4,i0 4),(7,i0 7),(8,.own 8 0 0 L.length),(9,f8 k),(10,f8 j)]
  [(2,⟨8,[.p (enc t)]⟩),(3,⟨8,[.p (enc u)]⟩),(4,⟨8,[zTT]⟩),(7,⟨2,[.p (enc t.ring)]⟩),(8,⟨3,aK L⟩)]
def AA(t u:eg)(L:List aH)(k:Nat):St :=
 aB [(2,i0 2),(3,i0 3),(4,i0 4),(7,i0 7),(8,.own 8 0 0 L.length),(9,f8 k)]
  [(2,⟨8,[.p (enc t)]⟩),(3,⟨8,[.p (enc u)]⟩),(4,⟨8,[zTT]⟩),(7,⟨2,[.p (enc t.ring)]⟩),(8,⟨3,aK L⟩)]
def OO(t u:eg)(L:List aH)(k j:Nat):rC t u L k (j+1)=Cn t u k (rC t u L k j) j:=by simp[rC,B7]
def ON(t u:eg)(a:Nat)(L:List aH)(k:Nat):lP t u a L (k+1)=rC t u (lP t u a L k) k a:=by simp[lP,B7]
theorem KQ(t u:eg)(L:List aH)(k:Nat):∀ j,(rC t u L k j).length<=L.length+j
 | 0=>by simp[rC]
 | j+1=>by
  rw[OO];have:=KQ t u L k j;unfold Cn;split
  .omega
  .simp;omega
theorem SJ(t u:eg)(a:Nat):∀ k,(lP t u a [] k).length<=k*a
 | 0=>by simp[lP]
 | k+1=>by rw[ON,Ah];have:=SJ t u a k;have:=KQ t u (lP t u a [] k) k a;omega
def yai{t u:eg}{M:cQ t.ring}(J:dB M){n d:Nat}(hn:n+n+1<=M.lim)(K:∀ w∈t.aM,w.aJ t.ring/\M.mb n w)(N:∀ w∈u.aM,w.aJ t.ring/\M.mb n w)(U:u.aM.length=d)(b:u.st=d)(Z:d<=1000)
  {L:List aH} (Y:L.length<=1000000) {k:Nat} (z:k<t.aM.length) {Q:Exit->St->Prop} {ks:List Kt} {st:St} (W:aA st (zB t u L k 0))
  (X:gA P 213 Q (fO 2 ks) 2 (zB t u (rC t u L k d) k d)):vL P 213 Q g.rb ks st:=by
 refine b6 (S:=λj:Nat=>zB t u (rC t u L k j) k j) (I:=λj=>j<=d) (m:=λj=>d - j) 0 W (by omega) ?_;rintro j hj R o V p;have D:=aZ j;by_cases A:j<d
 .have l:j<u.aM.length:=by omega
  have a:∀ f,aA f (zB t u (Cn t u k (rC t u L k j) j) k (j+1))->R .normal f:=λf h=>o (j+1) f (by rw[OO];exact h) (by omega) (by omega);have F:=KQ t u L k j;generalize rC t u L k j=O at *
  obtain⟨s,G⟩:=K _ (bU z);obtain⟨x,H⟩:=N _ (bU l);have C:=M.timesS (show n<=M.lim by omega) s x G H;have B:=J.pr hn (Eu s x) (M.times s x G H);have y:=Gm t.ring (t.ring.times t.aM[k] u.aM[j]) (B.mono (by omega));have E:Cn t u k O j=if t.ring.times t.aM[k] u.aM[j]=t.ring.zero then O else O++[⟨k,j,0⟩]:=by unfold Cn;rw[eV,eV,dO z,dO l];rfl
  rw[E]at a;clear E o p V;generalize t.ring.times t.aM[k] u.aM[j]=w at *
  simp[g.rb,zB,aB,b,A,zTT];refine bK z (bK l ?_);refine aW C ?_;simp;refine aW y ?_;by_cases r:w=t.ring.zero
  .rw[decide_eq_true r];rw[aX r]at a;simp[D];refine a _ (aA.to [2,3,4,7,8,9,10] [((2,0),2),((3,0),3),((4,0),4),((7,0),7),((8,0),8)] ?_);simp[zB,aB,zTT,b]
  .rw[decide_eq_false r];rw[bD r]at a;simp[D,eL];refine⟨by omega,a _ (aA.to [2,3,4,7,8,9,10] [((2,0),2),((3,0),3),((4,0),4),((7,0),7),((62,0),8)] ?_)⟩;simp[zB,aB,zTT,b]
 .have:j=d:=by omega
  subst this;simp[g.rb,zB,aB,b,zTT];refine p _ _ ?_;simpa[zB,aB,zTT,b]using X
def yah{t u:eg}{M:cQ t.ring}(C:dB M){n f b:Nat}(hn:n+n+1<=M.lim)(E:∀ w∈t.aM,w.aJ t.ring/\M.mb n w)(F:∀ w∈u.aM,w.aJ t.ring/\M.mb n w)(H:t.aM.length=f)(a:t.st=f)(s:u.aM.length=b)(x:u.st=b)(N:f<=100)(A:b<=1000)
  {Q:Exit->St->Prop} {ks:List Kt} {st:St} (y:aA st (AA t u [] 0))
  (z:gA P 213 Q (fO 0 ks) 0 (AA t u (lP t u b [] f) f)):vL P 213 Q g.rd ks st:=by
 refine b6 (S:=λk:Nat=>AA t u (lP t u b [] k) k) (I:=λk=>k<=f) (m:=λk=>f - k) 0 y (by omega) ?_;rintro k U R o J p;have D:=aZ k;by_cases r:k<f
 .have l:∀ i,aA i (AA t u (rC t u (lP t u b [] k) k b) (k+1))->R .normal i:=λi h=>o (k+1) i (by rw[ON];exact h) (by omega) (by omega);have B:=SJ t u b k;have G:k*b<=100*1000:=mT (by omega) A;generalize lP t u b [] k=O at *
  have j:=λQ ks st y z=>yai C hn E F s x A (L:=O) (by omega) (k:=k) (by omega) (Q:=Q) (ks:=ks) (st:=st) y z;clear o p J;simp[g.rd,AA,aB,a,r,zTT];refine j _ _ _ (aA.to [2,3,4,7,8,9,10] [((2,0),2),((3,0),3),((4,0),4),((7,0),7),((8,0),8)] ?_) ?_
  .simp[zB,aB,zTT,a]
  generalize rC t u O k b=K at *
  simp[gA,fO,zB,aB,zTT,D,a];refine l _ (aA.to [2,3,4,7,8,9] [((2,0),2),((3,0),3),((4,0),4),((7,0),7),((8,0),8)] ?_);simp[AA,aB,zTT,a]
 .have:k=f:=by omega
  subst this;simp[g.rd,AA,aB,a,zTT];refine p _ _ ?_;simpa[AA,aB,zTT,a]using z
def Sb(a:List Int):¬ a<a:=pU a
def ybj{a b:List Int}(h:a<b):¬ b<a:=λk=>pU a (Ca h k)
theorem P0{α : Type}{key : α -> List Int}:∀ {a b:List α},eH key a->eH key b->(∀ x,x∈a ↔ x∈b)->a=b
 | [],[],_,_,_=>rfl
 | [],y::b,_,_,h=>absurd ((h y).2 (by simp)) (by simp)
 | x::a,[],_,_,h=>absurd ((h x).1 (by simp)) (by simp)
 | x::a,y::b,n,o,h=>by
  obtain⟨j,l⟩:=mS.1 n;obtain⟨k,m⟩:=mS.1 o;have e:x=y:=by
   obtain d|d:=cI.1 ((h x).1 (by simp))
   .exact d
   .obtain i|i:=cI.1 ((h y).2 (by simp))
    .exact i.symm
    .exact absurd (k _ d) (ybj (j _ i))
  subst e;rw[P0 l m λz=>?_];constructor
  .intro f;obtain rfl|d:=cI.1 ((h z).1 (by simp[f]))
   .exact absurd (j _ f) (Sb _)
   .exact d
  .intro f;obtain rfl|d:=cI.1 ((h z).2 (by simp[f]))
   .exact absurd (k _ f) (Sb _)
   .exact d
theorem Pz{α : Type}{key : α -> List Int}{x : α}:∀ {s:List α},eH key s->(∀ y∈s,key y≠key x)->eH key (eJ key s x)
 | [],_,_=>List.pairwise_singleton _ _
 | z::r,h,f=>by
  obtain⟨d,i⟩:=mS.1 h;unfold eJ;split
  .rename_i a;refine mS.2 ⟨λy b=>?_,h⟩;obtain rfl|b:=cI.1 b
   .exact a
   .exact Ca a (d _ b)
  .rename_i a;refine mS.2 ⟨λy b=>?_,Pz i λy b=>f y (by simp[b])⟩;obtain rfl|b:=LJ.1 b
   .obtain h|h|h:=BO (key z) (key y)
    .exact h
    .exact absurd h (f z (by simp))
    .exact absurd h a
   .exact d _ b
def Lw(L:List aH)(all:List kH):eH aH.key (uq L all)/\∀ x,x∈uq L all ↔ (∃ r∈all,r.m.t=x)/\x∉L:=by
 have:∀ (all:List kH) (a:List aH),eH aH.key a->eH aH.key (all.foldl (λb x=>x4 L b x.m.t) a)/\∀ x,x∈all.foldl (λb x=>x4 L b x.m.t) a ↔ x∈a\/(∃ r∈all,r.m.t=x)/\x∉L:=by
  intro all
  induction all with
  | nil=>intro a h;exact⟨h,λx=>by simp⟩
  | cons r all p =>
   intro a h;have k:eH aH.key (x4 L a r.m.t):=by
    unfold x4;split
    .exact h
    .rename_i d;refine Pz h λy l e=>d (.inr ?_);rw[<- K7.2 e];exact l
   obtain⟨n,o⟩:=p _ k;refine⟨n,λx=>(o x).trans ?_⟩;have j:x∈x4 L a r.m.t ↔ x∈a\/(x=r.m.t/\x∉L):=by
    unfold x4;split
    .rename_i d;constructor
     .exact .inl
     .rintro(h|⟨rfl,h⟩)
      .exact h
      .exact d.resolve_left h
    .rename_i d;rw[LJ];constructor
     .rintro(rfl|h)
      .exact .inr ⟨rfl,λh=>d (.inl h)⟩
      .exact .inl h
     .rintro(h|⟨rfl,_⟩)
      .exact .inr h
      .exact .inl rfl
   rw[j];constructor
   .rintro((h|⟨rfl,h⟩)|⟨⟨q,hq,rfl⟩,h⟩)
    .exact .inl h
    .exact .inr ⟨⟨r,by simp,rfl⟩,h⟩
    .exact .inr ⟨⟨q,by simp[hq],rfl⟩,h⟩
   .rintro(h|⟨⟨q,hq,rfl⟩,h⟩)
    .exact .inl (.inl h)
    .obtain rfl|hq:=cI.1 hq
     .exact .inl (.inr ⟨rfl,h⟩)
     .exact .inr ⟨⟨q,hq,rfl⟩,h⟩
 obtain⟨f,i⟩:=this all [] List.Pairwise.nil;exact⟨f,λx=>(i x).trans (by simp)⟩
theorem WT{L:List aH}:∀ (ms:List eS),jQ eS.key ms->∃ N,ms.foldl (λL m=>dZ L m.t) L=L++N/\eH aH.key N/\∀ x,x∈N ↔ (∃ m∈ms,m.t=x)/\x∉L:=by
 intro ms;generalize d:ms.length=n
 induction n generalizing ms with
 | zero =>
  intro _;rw[q9 d];exact⟨[],by simp,List.Pairwise.nil,λx=>by simp⟩
 | succ n r =>
  intro p;obtain rfl|⟨ms,m,rfl⟩:=B' ms
  .simp at d
  rw[xV]at *
  obtain⟨f,_,i⟩:=List.pairwise_append.1 p;obtain⟨N,e,j,b⟩:=r ms (by simpa using d) f;rw[List.foldl_append,e];simp only[List.foldl_cons,List.foldl_nil];by_cases a:m.t∈L++N
  .refine⟨N,aX a,j,λx=>(b x).trans ?_⟩;constructor
   .rintro⟨⟨q,hq,rfl⟩,h⟩;exact⟨⟨q,by simp[hq],rfl⟩,h⟩
   .rintro⟨⟨q,hq,rfl⟩,h⟩;obtain hq|hq:=dN.1 hq
    .exact⟨⟨q,hq,rfl⟩,h⟩
    .rw[iT]at hq;subst hq;exact(b _).1 ((dN.1 a).resolve_left h)
  .refine⟨N++[m.t],?_,?_,λx=>?_⟩
   .rw[dZ,bD a,sI]
   .refine tY.2 ⟨j,List.pairwise_singleton _ _,λy k z l=>?_⟩;rw[iT]at l;subst l;obtain⟨⟨q,hq,rfl⟩,_⟩:=(b y).1 k;have o:¬ m.t.key<q.t.key:=i q hq m (by simp);obtain h|h|h:=BO q.t.key m.t.key
    .exact h
    .rw[<- K7.2 h]at a;exact absurd (List.mem_append_right L k) a
    .exact absurd h o
   .rw[dN,b,iT];constructor
    .rintro(⟨⟨q,hq,rfl⟩,h⟩|rfl)
     .exact⟨⟨q,by simp[hq],rfl⟩,h⟩
     .exact⟨⟨m,by simp,rfl⟩,λh=>a (Cf _ h)⟩
    .rintro⟨⟨q,hq,rfl⟩,h⟩;obtain hq|hq:=dN.1 hq
     .exact .inl ⟨⟨q,hq,rfl⟩,h⟩
     .rw[iT]at hq;subst hq;exact .inr rfl
theorem Th{x:aH}:∀ {A:List aH} (B:List aH) {i:Nat},x∈A->iE x (A++B) i=iE x A i
 | y::A,B,i,h=>by
  simp only[xX,iE];split
  .rfl
  .rename_i a;exact Th B ((cI.1 h).resolve_left a)
def Uf{x:aH}{L:List aH}(h:x∈L):oN x L=(mA x L:Nat):=by unfold oN;rw[KT h]
theorem SO(s:Nat)(ms:List eS):∀ X:List aH × List aE,(iY s X ms).1=ms.foldl (λL m=>dZ L m.t) X.1:=by
 induction ms with
 | nil=>intro X;rfl
 | cons m ms a=>intro X;exact a _
theorem S8:∀ (ms:List eS) (L:List aH),∃ N,ms.foldl (λL m=>dZ L m.t) L=L++N/\∀ m∈ms,m.t∈L++N
 | [],L=>⟨[],by simp,by simp⟩
 | m::ms,L=>by
  obtain⟨N,e,h⟩:=S8 ms (dZ L m.t);obtain⟨a,d⟩:∃ a,dZ L m.t=L++a:=by
   unfold dZ;split
   .exact⟨[],by simp⟩
   .exact⟨_,rfl⟩
  have b:=H4 L m.t;refine⟨a++N,?_,?_⟩
  .show ms.foldl _ (dZ L m.t)=_;rw[e,d,sI]
  .intro q hq;rw[<- List.append_assoc,<- d];obtain rfl|hq:=cI.1 hq
   .exact Cf _ b
   .exact h q hq
theorem ye0(s:Nat)(ms:List eS):∀ X:List aH × List aE,(iY s X ms).2=X.2++ms.map λm=>⟨s,m.i,m.o,oN m.t (iY s X ms).1,m.w⟩:=by
 induction ms with
 | nil=>intro X;simp[iY]
 | cons m ms f =>
  intro X;have e:=f (vP s X m);show(iY s (vP s X m) ms).2=X.2++(m::ms).map λq=>⟨s,q.i,q.o,oN q.t (iY s (vP s X m) ms).1,q.w⟩;rw[e,jH];obtain⟨N,a,_⟩:=S8 ms (dZ X.1 m.t);have b:(iY s (vP s X m) ms).1=dZ X.1 m.t++N:=by rw[SO];exact a
  have d:oN m.t (iY s (vP s X m) ms).1=(mA m.t (dZ X.1 m.t):Nat):=by rw[b,Uf (Cf _ (H4 _ _))];unfold mA;rw[Th N (H4 _ _)]
  rw[d];simp[vP]
theorem IM{α β : Type}{f g : α -> List β}:∀ {l:List α},(∀ x∈l,f x=g x)->l.flatMap f=l.flatMap g
 | [],_=>rfl
 | x::l,h=>by rw[jG,jG,h x (by simp),IM λy a=>h y (by simp[a])]
theorem IN{α β : Type}(p : α -> Bool)(f : α -> List β):∀ l:List α,(l.filter p).flatMap f=l.flatMap λx=>if p x=true then f x else[]
 | []=>rfl
 | x::l=>by rw[jG,<- IN p f l,EV];split<;>simp
theorem Za{t u:eg}(n:∀ x∈t.aD,0<=x.o/\x.w≠t.ring.zero)(hu:∀ y∈u.aD,y.w≠t.ring.zero)(a:aH):qT t u a=(sK t u a).map kH.mk:=by
 unfold qT sK tL mE;rw[tW,sS,IN,IN,List.filter_flatMap,List.filter_flatMap,List.map_flatMap,List.map_flatMap]
 congr 1
 .refine IM λx r=>?_;obtain⟨s,l⟩:=n x r;unfold sJ;by_cases k:x.f=a.p
  .rw[aX k,aX (by simp[k])];unfold qP mE;rw[tW,sS,IN,List.filter_flatMap,List.map_flatMap]
   congr 1
   .unfold Dq wW;split
    .simp[l]
    .rfl
   .refine IM λy m=>?_;unfold sY;by_cases d:y.f=a.q
    .rw[aX (show decide (y.f=a.q)=true by simp[d])];unfold pZ;by_cases b:x.o=y.i/\(x.o≠0\/a.f=0)
     .rw[aX b];by_cases j:t.ring.times x.w y.w=t.ring.zero
      .rw[bD λh=>h.2.2.2 j];simp[j]
      .rw[aX ⟨d,b.1,b.2.imp (λh=>by omega) id,j⟩];simp[j]
     .rw[bD b,bD λh=>b ⟨h.2.1,h.2.2.1.imp (λh=>by omega) id⟩];rfl
    .rw[bD λh=>d h.1,bD (by simp[d])];rfl
  .rw[bD k,bD (by simp[k])];rfl
 .refine IM λy m=>?_;have l:=hu y m;unfold uR rD;by_cases d:y.f=a.q
  .rw[aX (show decide (y.f=a.q)=true by simp[d])];by_cases b:y.i=0/\a.f≠1
   .rw[aX b,aX ⟨d,b⟩];simp[l]
   .rw[bD b,bD λh=>b h.2];rfl
  .rw[bD λh=>d h.1,bD (by simp[d])];rfl
def yel{t u:eg}(h:∀ a,qT t u a=(sK t u a).map kH.mk)(s:Nat){X X':List aH × List aE}(j:X.1=X'.1)(k:X.2.Perm X'.2) :
  (vY t u s X).1=(zJ t u s X').1/\(vY t u s X).2.Perm (zJ t u s X').2:=by
 obtain⟨L,K⟩:=X;obtain⟨C,B⟩:=X';simp only at j k;subst j;unfold vY zJ;simp only;rw[h];generalize sK t u (L.getD s ⟨0,0,0⟩)=b;have i:(bW eS.key b).Perm b:=F6 b;have y:jQ eS.key (bW eS.key b):=(gB b).1;obtain⟨N,l,n,o⟩:=WT (L:=L) (bW eS.key b) y;obtain⟨z,A⟩:=Lw L (b.map kH.mk);have p:N=uq L (b.map kH.mk):=P0 n z λx=>by
  rw[o,A];constructor
  .rintro⟨⟨m,f,rfl⟩,h⟩;exact⟨⟨⟨m⟩,cA.2 ⟨m,i.mem_iff.1 f,rfl⟩,rfl⟩,h⟩
  .rintro⟨⟨r,w,rfl⟩,h⟩;obtain⟨m,f,rfl⟩:=cA.1 w;exact⟨⟨m,i.mem_iff.2 f,rfl⟩,h⟩
 have d:(iY s (L,K) (bW eS.key b)).1=L++uq L (b.map kH.mk):=by rw[SO];exact l.trans (by rw[p])
 refine⟨d,?_⟩;rw[ye0,d,yG];exact k.append (i.map _)
theorem UA{t u:eg}(h:∀ a,qT t u a=(sK t u a).map kH.mk){X X':List aH × List aE}(d:X.1=X'.1)(f:X.2.Perm X'.2):∀ s,(dL t u X s).1=(dF t u X' s).1/\(dL t u X s).2.Perm (dF t u X' s).2
 | 0=>⟨d,f⟩
 | s+1=>by
  obtain⟨b,i⟩:=UA h d f s;simp only[dL,dF];rw[<- b];split
  .exact yel h s b i
  .exact⟨b,i⟩
theorem Uw{t u:eg}{L:List aH}{k:Nat}(d:∀ y∈L,y.p<k):∀ j,qR t u L k j=rC t u L k j/\∀ y∈rC t u L k j,y.p<k\/(y.p=k/\y.q<j)
 | 0=>⟨rfl,λy a=>.inl (d y a)⟩
 | j+1=>by
  obtain⟨f,b⟩:=Uw d j;have e:rC t u L k (j+1)=Cn t u k (rC t u L k j) j:=by simp[rC,B7]
  rw[Lp,e,f];unfold Hq Cn;split
  .exact⟨rfl,λy a=>by obtain h|h:=b y a<;>omega⟩
  .have l:(⟨k,j,0⟩:aH)∉rC t u L k j:=λi=>by obtain h|⟨_,h⟩:=b _ i<;>simp at h
   refine⟨bD l,λy a=>?_⟩;obtain a|a:=dN.1 a
   .obtain h|h:=b y a<;>omega
   .rw[iT]at a;subst a;refine .inr ⟨rfl,?_⟩;simp only;omega
theorem Uv(t u:eg):∀ k,jM t u [] k=lP t u u.aM.length [] k/\∀ y∈lP t u u.aM.length [] k,y.p<k
 | 0=>⟨rfl,λy a=>by cases a⟩
 | k+1=>by
  obtain⟨b,d⟩:=Uv t u k;have e:lP t u u.aM.length [] (k+1)=rC t u (lP t u u.aM.length [] k) k u.aM.length:=by simp[lP,B7]
  rw[Lo,e,b];obtain⟨f,i⟩:=Uw (t:=t) (u:=u) d u.aM.length;exact⟨f,λy a=>by obtain h|h:=i y a<;>omega⟩
def gR(t u:eg)(st:Nat)(b a d:AV):AV:=.agg [f8 t.ring.kind,hW t.ring.parts,f8 t.i,f8 u.o,f8 st,b,a,d]
def Ay(t u:eg)(L:List aH)(K:List aE)(s:Nat):St :=
 aB [(2,i0 2),(3,i0 3),(4,i0 4),(7,i0 7),(8,.own 8 0 0 L.length),(11,i0 11),(12,f8 s)]
  [(2,⟨8,[.p (enc t)]⟩),(3,⟨8,[.p (enc u)]⟩),(4,⟨8,[zTT]⟩),(7,⟨2,[.p (enc t.ring)]⟩),(8,⟨3,aK L⟩),(11,⟨8,[gR t u 0 .nil .nil (.own 31 0 0 K.length)]⟩),(31,⟨12,aK K⟩)]
def Az(t u:eg)(L:List aH)(K:List aE)(s:Nat)(all:List kH)(k:Nat):St :=
 aB [(2,i0 2),(3,i0 3),(4,i0 4),(7,i0 7),(8,.own 8 0 0 L.length),(11,i0 11),(12,f8 s),(13,hW all),(14,f8 k)]
  [(2,⟨8,[.p (enc t)]⟩),(3,⟨8,[.p (enc u)]⟩),(4,⟨8,[zTT]⟩),(7,⟨2,[.p (enc t.ring)]⟩),(8,⟨3,aK L⟩),(11,⟨8,[gR t u 0 .nil .nil (.own 31 0 0 K.length)]⟩),(31,⟨12,aK K⟩)]
def yQ(s:Nat)(L:List aH)(x:kH):aE:=⟨s,x.m.i,x.m.o,oN x.m.t L,x.m.w⟩
def yha{t u:eg}{L:List aH}(y:L.length<=1000000){K:List aE}(E:K.length<=3000000){s:Nat}{all:List kH}(D:all.length<=1000000){Q:Exit->St->Prop}{ks:List Kt}{st:St}(o:aA st (Az t u L K s all 0))
  (r:gA P 213 Q (fO 6 ks) 6 (Az t u L (K++all.map (yQ s L)) s all all.length)):vL P 213 Q g.re ks st:=by
 refine b6 (S:=λk:Nat=>Az t u L (K++(all.take k).map (yQ s L)) s all k) (I:=λk=>k<=all.length) (m:=λk=>all.length - k) 0 (by simpa using o) (by omega) ?_;rintro k F R j A l;have w:=aZ k;by_cases d:k<all.length
 .have n:(all.take (k+1)).map (yQ s L)=(all.take k).map (yQ s L)++[yQ s L all[k]]:=by rw[ed d,sS];rfl
  have a:∀ f,aA f (Az t u L (K++(all.take (k+1)).map (yQ s L)) s all (k+1))->R .normal f:=λf h=>j (k+1) f h (by omega) (by omega);rw[n,<- List.append_assoc]at a;have z:(K++(all.take k).map (yQ s L)).length<=4000000:=by simp;omega
  have B:=Lz L all[k].m.t y;generalize K++(all.take k).map (yQ s L)=O at *
  unfold yQ at a;generalize oN all[k].m.t L=p at *
  clear j l A o r;simp[g.re,Az,aB,d,zTT,gR];have b:all[k]?=some all[k]:=dO d;generalize all[k]'d=x at *
  refine eD b (eD b (eD b ?_));obtain⟨⟨G,H,⟨M,N,C⟩,J⟩⟩:=x;simp only at *
  refine aW B ?_;simp;refine eD b ?_;simp[w];refine⟨by omega,a _ (aA.to [2,3,4,7,8,11,12,13,14] [((2,0),2),((3,0),3),((4,0),4),((7,0),7),((8,0),8),((11,0),11),((125,0),31)] ?_)⟩;simp[Az,aB,zTT,gR]
 .have:k=all.length:=by omega
  subst this;rw[List.take_length];simp[g.re,Az,aB,zTT,gR];refine l _ _ ?_;simpa[Az,aB,zTT,gR]using r
theorem Xj(l:List aH):(ens l).all PV.flat=true:=by rw[k8];intro v a;obtain⟨b,_,rfl⟩:=cA.1 a;rfl
def yg9{t u:eg}{M:cQ t.ring}{n ns nu:Nat}(o:xG t u M n ns nu){X:List aH × List aE}(l:∀ s,kG ns nu (dF t u X s).1/\(dF t u X s).2.length<=s*1000)(G:∀ a,(qT t u a).length<=1000){Q:Exit->St->Prop}{ks:List Kt}{st:St}(D:aA st (Ay t u X.1 X.2 0))
  (E:∀ s,s=(dF t u X s).1.length->gA P 213 Q (fO 4 ks) 4 (Ay t u (dF t u X s).1 (dF t u X s).2 s)):vL P 213 Q g.rf ks st:=by
 have ad:=mT o.hs o.hu;refine b6 (S:=λs:Nat=>Ay t u (dF t u X s).1 (dF t u X s).2 s) (I:=λs=>s<=(dF t u X s).1.length) (m:=λs=>ns*nu*3 - s) 0 D (by simp) ?_;rintro s hs R A hr C;have U:=(l s).1.len;have F:=(l s).2;have e1:=aZ s;by_cases f:s<(dF t u X s).1.length
 .have p:dF t u X (s+1)=zJ t u s (dF t u X s):=aX f;have b:∀ r,aA r (Ay t u (zJ t u s (dF t u X s)).1 (zJ t u s (dF t u X s)).2 (s+1))->R .normal r:=λr h=>A (s+1) r (by rw[p];exact h) (by rw[p];show s+1<=((dF t u X s).1++_).length;rw[gQ];omega) (by omega);have d:=(l (s+1)).1.len;rw[p]at d;clear A C hr D E l p;generalize dF t u X s=Y at *
  obtain⟨L,K⟩:=Y;unfold zJ at b d;simp only at b d f F U hs;have z:L[s]?=some L[s]:=dO f;have J:L.getD s ⟨0,0,0⟩=L[s]:=by rw[eV,z];rfl
  rw[J]at b d;have hb:s*1000<=2700*1000:=jU _ (by omega);have H:=yak o.mp o.hn L[s] o.wat (by have:=o.at_;omega) o.wau (by have:=o.au;omega);have af:=G L[s];generalize qT t u L[s]=all at *
  have W:=yf0 L all (by omega) (by omega) λk _=>(Lw L (all.take k)).1;generalize uq L all=N at *
  have y:=λQ ks st D E=>yha (t:=t) (u:=u) (L:=L++N) (by omega) (K:=K) (by omega) (s:=s) (all:=all) (by omega) (Q:=Q) (ks:=ks) (st:=st) D E;have ag:N.length<=2700:=by rw[gQ]at d;omega
  have O:(L.length:Int)<=4096:=by omega
  simp[g.rf,Ay,aB,f,zTT,gR,O];refine eD z ?_;refine aW H ?_;simp[aI];refine EF W (by simp) ⟨jF _ _ rfl,by decide,by simp[-gW,ens,eL];omega⟩ _ rfl ?_;simp[Xj,eL];refine⟨by omega,y _ _ _ (aA.to [2,3,4,7,8,11,12,13,14] [((2,0),2),((3,0),3),((4,0),4),((7,0),7),((91,0),8),((11,0),11),((31,0),31)] ?_) ?_⟩
  .simp[Az,aB,zTT,gR]
  have Z:all.map (λx=>(⟨s,x.m.i,x.m.o,oN x.m.t (L++N),x.m.w⟩:aE))=all.map (yQ s (L++N)):=rfl;rw[Z]at b;generalize K++all.map (yQ s (L++N))=K2 at *
  generalize L++N=L2 at *
  simp[gA,fO,Az,aB,zTT,gR,e1];refine b _ (aA.to [2,3,4,7,8,11,12] [((2,0),2),((3,0),3),((4,0),4),((7,0),7),((8,0),8),((11,0),11),((31,0),31)] ?_);simp[Ay,aB,zTT,gR]
 .have B:s=(dF t u X s).1.length:=by omega
  have hh:=E s;generalize hY:dF t u X s=Y at *
  obtain⟨L,K⟩:=Y;simp only at B hh f;have V:¬ (s:Int)<L.length:=by omega
  simp[g.rf,Ay,aB,zTT,gR,V];refine C _ _ ?_;simpa[Ay,aB,zTT,gR]using hh B
def c5S(t u:eg)(L:List aH)(K:List aE)(A B:List GW)(k:Nat):St :=
 aB [(2,i0 2),(3,i0 3),(4,i0 4),(7,i0 7),(8,.own 8 0 0 L.length),(11,i0 11),(15,f8 k)]
  [(2,⟨8,[.p (enc t)]⟩),(3,⟨8,[.p (enc u)]⟩),(4,⟨8,[zTT]⟩),(7,⟨2,[.p (enc t.ring)]⟩),(8,⟨3,aK L⟩),(11,⟨8,[gR t u L.length (.own 32 0 0 A.length) (.own 33 0 0 B.length) (.own 31 0 0 K.length)]⟩),(31,⟨12,aK K⟩),(32,⟨8,aK A⟩),(33,⟨8,aK B⟩)]
def yg8{t u:eg}{M:cQ t.ring}{n D E:Nat}(MP:dB M)(hn:n+n+1<=M.lim)(it:t.aM.length=D)(iu:u.aM.length=E)(ft:t.fin.length=D)(fu:u.fin.length=E)
  (wit:∀ w∈t.aM,w.aJ t.ring/\M.mb n w) (wiu:∀ w∈u.aM,w.aJ t.ring/\M.mb n w) (H:∀ w∈t.fin,w.aJ t.ring/\M.mb n w) (J:∀ w∈u.fin,w.aJ t.ring/\M.mb n w)
  {L:List aH} (hL:kG D E L) (ad:L.length<=4000) {K:List aE} {Q:Exit->St->Prop} {ks:List Kt} {st:St} (hw:aA st (c5S t u L K [] [] 0))
  (hx:gA P 213 Q (fO 8 ks) 8 (c5S t u L K (L.map (dR t u)) (L.map (dU t u)) L.length)):vL P 213 Q g.rg ks st:=by
 refine b6 (S:=λk:Nat=>c5S t u L K ((L.take k).map (dR t u)) ((L.take k).map (dU t u)) k) (I:=λk=>k<=L.length) (m:=λk=>L.length - k) 0 (by simpa using hw) (by omega) ?_;rintro k hk R o hr s;have Y:=aZ k;by_cases i:k<L.length
 .have r:L.take (k+1)=L.take k++[L[k]]:=ed i;have d:∀ j,aA j (c5S t u L K ((L.take k).map (dR t u)++[dR t u L[k]]) ((L.take k).map (dU t u)++[dU t u L[k]]) (k+1))->R .normal j:=λj h=>o (k+1) j (by simp only[r,sS,jH,JC];exact h) (by omega) (by omega);have hA:((L.take k).map (dR t u)).length<=4000:=by simp;omega
  have hB:((L.take k).map (dU t u)).length<=4000:=by simp;omega
  generalize (L.take k).map (dR t u)=A at *
  generalize (L.take k).map (dU t u)=B at *
  have hb:=hL.b _ (bU i);have f:L[k]?=some L[k]:=dO i;clear o s hr hw hx r;generalize L[k]'i=a at *
  obtain⟨N,O,x⟩:=a;simp only at hb;obtain⟨p,hp⟩:∃ p:Nat,N=(p:Int):=⟨N.toNat,by omega⟩;obtain⟨q,hq⟩:∃ q:Nat,O=(q:Int):=⟨O.toNat,by omega⟩;subst hp hq;have F:p<t.aM.length:=by omega
  have z:p<t.fin.length:=by omega
  have G:q<u.aM.length:=by omega
  have C:q<u.fin.length:=by omega
  obtain⟨U,m1⟩:=wit _ (bU F);obtain⟨V,m2⟩:=H _ (bU z);obtain⟨W,m3⟩:=wiu _ (bU G);obtain⟨X,m4⟩:=J _ (bU C);have t1:=M.timesS (n:=n) (by omega) U W m1 m3;have t2:=M.timesS (n:=n) (by omega) V X m2 m4;have Z:dU t u ⟨p,q,x⟩=t.ring.times t.fin[p] u.fin[q]:=by unfold dU;simp only[kZ];rw[eV,eV,dO z,dO C];rfl
  have hI:dR t u ⟨p,q,x⟩=if x=0 then t.ring.times t.aM[p] u.aM[q]else t.ring.zero:=by unfold dR;simp only[kZ];rw[eV,eV,dO F,dO G];rfl
  rw[Z,hI]at d;clear Z hI U V W X m1 m2 m3 m4;have z3:=F2 t.ring;generalize t.ring.times t.fin[p] u.fin[q]=w2 at *
  generalize t.ring.times t.aM[p] u.aM[q]=w1 at *
  generalize t.ring.zero=w0 at *
  simp[g.rg,c5S,aB,i,zTT,gR];refine aW z3 ?_;simp[i];refine eD f ?_;by_cases y:x=0
  .rw[aX y]at d;subst y;simp;refine eD f (eD (by simp;exact dO F) ⟨by simp,eD f (eD (by simp;exact dO G) ⟨by simp,?_⟩)⟩);refine aW t1 ?_;simp[i,eL];refine⟨by omega,eD f (eD (by simp;exact dO z) ⟨by simp,eD f (eD (by simp;exact dO C) ⟨by simp,?_⟩)⟩)⟩;refine aW t2 ?_;simp[eL,Y];refine⟨by omega,d _ (aA.to [2,3,4,7,8,11,15] [((2,0),2),((3,0),3),((4,0),4),((7,0),7),((8,0),8),((11,0),11),((31,0),31),((172,0),32),((196,0),33)] ?_)⟩;simp[c5S,aB,zTT,gR]
  .rw[bD y]at d;simp[y];refine⟨by omega,eD f (eD (by simp;exact dO z) ⟨by simp,eD f (eD (by simp;exact dO C) ⟨by simp,?_⟩)⟩)⟩;refine aW t2 ?_;simp[eL,Y];refine⟨by omega,d _ (aA.to [2,3,4,7,8,11,15] [((2,0),2),((3,0),3),((4,0),4),((7,0),7),((8,0),8),((11,0),11),((31,0),31),((172,0),32),((196,0),33)] ?_)⟩;simp[c5S,aB,zTT,gR]
 .have:k=L.length:=by omega
  subst this;rw[List.take_length];simp[g.rg,c5S,aB,zTT,gR];refine s _ _ ?_;simpa[c5S,aB,zTT,gR]using hx
def jV(t u:eg)(L:List aH)(K:List aE):List Bool:=fG (iN (s5 K L.length) (fI t u L)) (iN (tG K L.length) (fF t u L))
theorem Ky{n:Nat}(g h:aE->Int):∀ {K:List aE} (_:∀ x∈K,0<=h x/\h x<(n:Int)) {ls:List (List Int)},(∀ l∈ls,∀ x∈l,∃ j:Nat,x=j/\j<n)->∀ l∈K.foldl (λls x=>qC ls (g x) (h x)) ls,∀ x∈l,∃ j:Nat,x=j/\j<n
 | [],_,_,d,l,b=>d l b
 | x::K,i,ls,d,l,b=>by
  refine Ky g h (K:=K) (λy a=>i y (by simp[a])) (ls:=qC ls (g x) (h x)) (λl b y a=>?_) l b;unfold qC at b;obtain b|rfl:=E5 b
  .exact d l b y a
  .obtain a|a:=dN.1 a
   .rw[eV]at a;cases f:ls[(g x).toNat]? with
    | none=>rw[f]at a;cases a
    | some z=>rw[f]at a;exact d z (wM f) y a
   .simp only[iT]at a;have:=i x (by simp);exact⟨(h x).toNat,by omega,by omega⟩
def Vh{α : Type}[Enc α](a:List Nat)(ids:List ((Nat × Nat) × Nat))(l:List α):(aK l).map (eo a ids)=aK l:=by rw[<- tV];exact Ur (ens l)
theorem Mv(l:List Bool):(ens l).all PV.flat=true:=by rw[k8];intro v a;obtain⟨b,_,rfl⟩:=cA.1 a;rfl
def RD{l:List (Nat × Nat)}{a:Nat × Nat}(h:∀ d∈l,d.1≠a.1):l.contains a=false:=by rw[Bool.eq_false_iff];intro b;exact h a (by simpa using b) rfl
def Vi{t u:eg}{M:cQ t.ring}(S:dB M){n C D:Nat}(hn:n+n+1<=M.lim)(it:t.aM.length=C)(iu:u.aM.length=D)(U:t.fin.length=C)(V:u.fin.length=D)
  (wit:∀ w∈t.aM,w.aJ t.ring/\M.mb n w) (wiu:∀ w∈u.aM,w.aJ t.ring/\M.mb n w) (G:∀ w∈t.fin,w.aJ t.ring/\M.mb n w) (H:∀ w∈u.fin,w.aJ t.ring/\M.mb n w)
  (mp:PV) {L:List aH} (X:kG C D L) (o:L.length<=4000) {K:List aE} (W:K.length<=10000000) (k:∀ x∈K,x.fit L.length) (zs:∀ a∈L,(dR t u a).sm 1048576/\(dU t u a).sm 1048576) :
  Sp P 79 [.ref (fA t u mp L K)] (.fresh 1 (ens (jV t u L K))):=by
 have z:(fI t u L).length=L.length:=by simp[fI]
 have y:(fF t u L).length=L.length:=by simp[fF]
 have E:=QN (nx:=s5 K L.length) (m:=fI t u L) (N:=L.length) (by omega) z (HO _ _) λl b=>⟨dM (FB (·.f) (·.t) K (List.replicate L.length []) 0 (λl b=>by rw[B8 b];exact dE _) l b) (by omega),Ky (·.f) (·.t) (λx h=>(k x h).2) (λl b=>by rw[B8 b];intro x h;cases h) l b⟩;have F:=QN (nx:=tG K L.length) (m:=fF t u L) (N:=L.length) (by omega) y (HF _ _) λl b=>⟨dM (FB (·.t) (·.f) K (List.replicate L.length []) 0 (λl b=>by rw[B8 b];exact dE _) l b) (by omega),Ky (·.t) (·.f) (λx h=>(k x h).1) (λl b=>by rw[B8 b];intro x h;cases h) l b⟩;have r:(iN (s5 K L.length) (fI t u L)).length=L.length:=by simp[iN,z]
 have s:(iN (tG K L.length) (fF t u L)).length=L.length:=by simp[iN,y]
 unfold jV;have j:=λQ ks st hw h=>W3 S hn it iu U V wit wiu G H mp X o K zs (Q:=Q) (ks:=ks) (st:=st) hw h;generalize fI t u L=A at *
 generalize fF t u L=B at *
 generalize Y:iN (s5 K L.length) A=O at *
 generalize Z:iN (tG K L.length) B=R at *
 refine Sp.fD c.ng (by simp) (aA.dV (t:=0) (v:=fA t u mp L K) (n:=19) (by simp) rfl) ?_;simp[g.ng,fA,eL];have i:aK (List.replicate L.length false)=List.replicate L.length (i4 false):=by rw[Ja];rfl
 refine⟨by omega,j _ _ _ (aA.to [0,3,4,29,30,31] [((19,0),19),((25,0),25)] ?_) ?_⟩
 .simp[Ai,fA,aO,i,tV,eo]
 simp[gA,fO,Ai,fA,eL];refine⟨by omega,z82 (n:=L.length) (by omega) k (aA.cW [3,4,9,10,80,81,82] [100,109] [((19,0),19),((25,0),25),((70,0),70),((76,0),76)] (st':=sV L.length K A B _ _ _ _ 0) ?_) ?_⟩
 .simp[sV,aO,tV,eo,Vh]
 intro C1 C2 H1 H2 I J;simp[gA,fO,sV];refine qV E ?_ rfl rfl (by simp) (by simp[z]) (by simp[r]) rfl (jF _ _ rfl) (cells_one (λ_=>rfl) _) ?_ ?_
 .refine kX (uF (l:=A) (sz:=1) (es:=aK A) (by simp) rfl (by omega)) (kX (S0 I (by rw[HO]) (by simp) λg=>?_) pS);simp[St.obj,St.site,look]
 .refine RD λd hd=>?_;simp only[List.eraseIdx_cons_zero,jG,List.flatMap_nil,kY]at hd;obtain hd|hd:=dN.1 hd
  .have:=R9 I (by simp) (λg=>by simp[St.obj,St.site,look]) d hd;simp only;omega
  .exfalso;simp at hd
 simp[Mv];refine qV F ?_ rfl rfl (by simp) (by simp[y]) (by simp[s]) rfl (jF _ _ rfl) (cells_one (λ_=>rfl) _) ?_ ?_
 .refine kX (uF (l:=B) (sz:=1) (es:=aK B) (by simp) rfl (by omega)) (kX (S0 J (by rw[HF]) (by simp) λg=>?_) pS);simp[St.obj,St.site,look]
 .refine RD λd hd=>?_;simp only[List.eraseIdx_cons_zero,jG,List.flatMap_nil,kY]at hd;obtain hd|hd:=dN.1 hd
  .have:=R9 J (by simp) (λg=>by simp[St.obj,St.site,look]) d hd;simp only;omega
  .exfalso;simp at hd
 simp[Mv];refine W4 (A:=O) (B:=R) (n:=L.length) r s (by omega) (aA.to [3,4,120,121] [((19,0),19),((25,0),25)] ?_) ?_
 .simp[yH,aO]
 simp[gA,fO,yH];simp[fG,r,s]
def wQ(t u:eg)(L:List aH)(K:List aE)(m:List Bool):eg:=⟨t.ring,t.i,u.o,(gI m L.length:Nat),gD m (L.map (dR t u)),gD m (L.map (dU t u)),nE m K⟩
def nU(t u:eg)(mp:PV)(L:List aH)(K:List aE)(m:List Bool)(A B:List GW)(D:List Int)(cm k:Nat):St :=
 ⟨[(0,.cp (fA t u mp L K) 19 0),(2,i0 2),(3,i0 3),(4,.own 4 0 0 L.length),(5,.own 5 0 0 L.length),(39,hW L),(40,f8 L.length),(41,f8 k)],
  [(2,[some ⟨8,[.agg [f8 0,.nil,f8 0,f8 0,f8 0,.nil,.nil,.nil]]⟩]),
  (3,[some ⟨8,[.agg [f8 t.ring.kind,hW t.ring.parts,f8 t.i,f8 u.o,f8 cm,.own 121 0 0 A.length,.own 122 0 0 B.length,.nil]]⟩]),
  (4,[some ⟨1,aK m⟩]),(5,[some ⟨1,aK D⟩]),(121,[some ⟨8,aK A⟩]),(122,[some ⟨8,aK B⟩]),(aO,[none])]⟩
def WI{t u:eg}{M:cQ t.ring}(Y:dB M){n J N:Nat}(hn:n+n+1<=M.lim)(it:t.aM.length=J)(iu:u.aM.length=N)(ft:t.fin.length=J)(fu:u.fin.length=N)
  (wit:∀ w∈t.aM,w.aJ t.ring/\M.mb n w) (wiu:∀ w∈u.aM,w.aJ t.ring/\M.mb n w) (O:∀ w∈t.fin,w.aJ t.ring/\M.mb n w) (U:∀ w∈u.fin,w.aJ t.ring/\M.mb n w)
  (mp:PV) {L:List aH} (hL:kG J N L) (ad:L.length<=4000) (K:List aE) {m:List Bool} (hm:m.length=L.length) {Q:Exit->St->Prop} {ks:List Kt} {st:St} (G:aA st (nU t u mp L K m [] [] (lu 0 (cW m) 0) 0 0))
  (H:gA P 119 Q (fO 0 ks) 0 (nU t u mp L K m (gD m (L.map (dR t u))) (gD m (L.map (dU t u))) (cW m) (gI m L.length) L.length)):vL P 119 Q g.qr ks st:=by
 have lT:(cW m).length=L.length:=by rw[BM,hm]
 refine b6 (S:=λk:Nat=>nU t u mp L K m (gD (m.take k) ((L.map (dR t u)).take k)) (gD (m.take k) ((L.map (dU t u)).take k)) (lu 0 (cW m) k) (gI m k) k) (I:=λk=>k<=L.length) (m:=λk=>L.length - k) 0 (by simpa[gD,gI]using G) (by omega) ?_;rintro k hk R s X y;have V:=aZ k;by_cases f:k<L.length
 .have d:∀ r,aA r (nU t u mp L K m (gD (m.take (k+1)) ((L.map (dR t u)).take (k+1))) (gD (m.take (k+1)) ((L.map (dU t u)).take (k+1))) (lu 0 (cW m) (k+1)) (gI m (k+1)) (k+1))->R .normal r:=λr h=>s (k+1) r h (by omega) (by omega);have j:k<m.length:=by omega
  have af:=M7 m k;have Z:IntKind.i64.wrap ((gI m k:Int)+1)=((gI m k+1:Nat):Int):=cT;rw[F3 j (by simpa using f),F3 j (by simpa using f)]at d;have hA:(gD (m.take k) ((L.map (dR t u)).take k)).length<=4000:=by rw[CM (by simp;omega)];exact Nat.le_trans List.count_le_length (by rw[List.length_take];omega)
  have hB:(gD (m.take k) ((L.map (dU t u)).take k)).length<=4000:=by rw[CM (by simp;omega)];exact dM Jl (by rw[fY];omega)
  have i:=K' j;have F:=FM 0 (cW m) (k:=k) (by omega);have W:=hL.b _ (bU f);have C:=Ta Y hn it iu ft fu wit wiu O U mp L K (a:=L[k]) ⟨W.1,W.2.1⟩;simp only[Ce]at d;generalize gD (m.take k) ((L.map (dR t u)).take k)=A at *
  generalize gD (m.take k) ((L.map (dU t u)).take k)=B at *
  have o:m[k]?=some m[k]:=dO j;cases l:m[k]with
  | false =>
   have E:=Pg 0 (cW m) (k:=k) (by omega) (by rw[HW j,l];rfl);rw[l]at d i o;simp only[gP,fQ,kY,Bool.toNat_false,uO]at d i;rw[E,i]at d;clear s y X G H;generalize lu 0 (cW m) k=D at *
   simp[g.qr,nU,f];refine bK f ?_;refine⟨by omega,eD o ?_⟩;simp[V];refine d _ (aA.to [0,2,3,4,5,39,40,41] [((2,0),2),((3,0),3),((4,0),4),((5,0),5),((121,0),121),((122,0),122)] ?_);simp[nU,fA,aO]
  | true =>
   have x:=FN 0 (cW m) (k:=k) (by omega);rw[HW j,l]at x;rw[l]at d i o;simp only[cH,Bool.toNat_true]at d i x;rw[<- x,i]at d;clear s y X G H;generalize lu 0 (cW m) k=D at *
   generalize gI m k=z at *
   simp[g.qr,nU,f];refine bK f ?_;generalize L[k]'f=a at *
   generalize dR t u a=w1 at *
   generalize dU t u a=w2 at *
   refine⟨by omega,eD o ?_⟩;simp[f,F,Z];refine⟨by omega,bK (by omega:k<D.length) ?_⟩;refine bA C (by simp[K6]) ?_;simp[fA,HB,eL,V];refine⟨by omega,by omega,d _ (aA.to [0,2,3,4,5,39,40,41] [((2,0),2),((3,0),3),((4,0),4),((5,0),5),((69,0),121),((74,0),122)] ?_)⟩;rw[CZ D k ((z:Nat):Int) (v:=f8 z) rfl];generalize D.set k ((z:Nat):Int)=D2;simp[nU,fA,aO]
 .have:k=L.length:=by omega
  subst this;have t1:m.take L.length=m:=eZ (by omega);have t2:(L.map (dR t u)).take L.length=L.map (dR t u):=eZ (by simp);have t3:(L.map (dU t u)).take L.length=L.map (dU t u):=eZ (by simp);have t0:lu 0 (cW m) L.length=cW m:=by rw[<- lT];exact HU 0 (cW m)
  rw[t0,t1,t2,t3];simp[g.qr,nU];refine y _ _ ?_;simpa[nU,fA]using H
def nT(t u:eg)(N:Nat)(K:List aE)(m:List Bool)(A B:List GW)(D:List Int)(cm:Nat)(C:List aE)(k:Nat):St :=
 ⟨[(2,i0 2),(3,i0 3),(4,.own 4 0 0 N),(5,.own 5 0 0 N),(81,hW K),(82,f8 K.length),(83,f8 k)],
  [(2,[some ⟨8,[.agg [f8 0,.nil,f8 0,f8 0,f8 0,.nil,.nil,.nil]]⟩]),
  (3,[some ⟨8,[.agg [f8 t.ring.kind,hW t.ring.parts,f8 t.i,f8 u.o,f8 cm,.own 121 0 0 A.length,.own 122 0 0 B.length,.own 123 0 0 C.length]]⟩]),
  (4,[some ⟨1,aK m⟩]),(5,[some ⟨1,aK D⟩]),(121,[some ⟨8,aK A⟩]),(122,[some ⟨8,aK B⟩]),(123,[some ⟨12,aK C⟩]),(aO,[none])]⟩
def WJ{t u:eg}{N:Nat}(hN:N<=100000){K:List aE}(hl:K.length<=3000000){m:List Bool}(z:m.length=N)(W:∀ x∈K,x.fit N){A B:List GW}{cm:Nat}{Q:Exit->St->Prop}{ks:List Kt}{st:St}(J:aA st (nT t u N K m A B (cW m) cm [] 0))
  (L:gA P 119 Q (fO 2 ks) 2 (nT t u N K m A B (cW m) cm (nE m K) K.length)):vL P 119 Q g.rj ks st:=by
 have Y:(cW m).length=N:=by rw[BM,z]
 refine b6 (S:=λk:Nat=>nT t u N K m A B (cW m) cm (nE m (K.take k)) k) (I:=λk=>k<=K.length) (m:=λk=>K.length - k) 0 (by simpa[nE]using J) (by omega) ?_;rintro k hk R p X s;have y:=aZ k;by_cases b:k<K.length
 .have a:∀ d,aA d (nT t u N K m A B (cW m) cm (nE m (K.take (k+1))) (k+1))->R .normal d:=λd h=>p (k+1) d h (by omega) (by omega);have hC:(nE m (K.take k)).length<=3000000:=dM (Sc _ _) (by rw[fY];omega);rw[Tq m b]at a;generalize nE m (K.take k)=C at *
  obtain⟨⟨Z,f1⟩,t0,t1⟩:=W _ (bU b);clear p s X J L;simp[g.rj,nT,b];refine bK b ?_;generalize K[k]'b=x at *
  obtain⟨f,j⟩:∃ f:Nat,x.f=(f:Int):=⟨x.f.toNat,by omega⟩;obtain⟨q,l⟩:∃ q:Nat,x.t=(q:Int):=⟨x.t.toNat,by omega⟩;have n:f<N:=by omega
  have r:q<N:=by omega
  have E:m[f]?=some m[f]:=dO (by omega);have F:m[q]?=some m[q]:=dO (by omega);have G:(cW m)[f]?=some (cW m)[f]:=dO (by omega);have H:(cW m)[q]?=some (cW m)[q]:=dO (by omega);have U:x7 m x=(m[f]&&m[q]):=by unfold x7;rw[j,l,kZ,kZ,eV,eV,E,F];rfl
  have V:rX m x=⟨(cW m)[f],x.i,x.o,(cW m)[q],x.w⟩:=by unfold rX;rw[j,l,kZ,kZ,eV,eV,G,H];rfl
  rw[U,V]at a;generalize m[f]=M at *
  generalize m[q]=O at *
  generalize (cW m)[f]=n1 at *
  generalize (cW m)[q]=n2 at *
  generalize cW m=D at *
  rw[j,l];simp[n,z];refine eD E ?_;cases M with
  | false =>
   simp only[Bool.false_and,gP,fQ,kY]at a;simp[y];refine a _ (aA.to [2,3,4,5,81,82,83] [((2,0),2),((3,0),3),((4,0),4),((5,0),5),((121,0),121),((122,0),122),((123,0),123)] ?_);simp[nT,aO]
  | true =>
   simp[r,z];refine eD F ?_;cases O with
   | false =>
    simp only[Bool.and_false,gP,fQ,kY]at a;simp[y];refine a _ (aA.to [2,3,4,5,81,82,83] [((2,0),2),((3,0),3),((4,0),4),((5,0),5),((121,0),121),((122,0),122),((123,0),123)] ?_);simp[nT,aO]
   | true =>
    simp only[GU,cH]at a;simp[n,r,Y];refine eD G (eD H ?_);simp[y];refine⟨by omega,a _ (aA.to [2,3,4,5,81,82,83] [((2,0),2),((3,0),3),((4,0),4),((5,0),5),((121,0),121),((122,0),122),((115,0),123)] ?_)⟩;simp[nT,aO]
 .have:k=K.length:=by omega
  subst this;rw[List.take_of_length_le (Nat.le_refl _)];simp[g.rj,nT];refine s _ _ ?_;simpa[nT]using L
def Vc{t u:eg}{M:cQ t.ring}(r:dB M){n l o:Nat}(hn:n+n+1<=M.lim)(it:t.aM.length=l)(iu:u.aM.length=o)(y:t.fin.length=l)(z:u.fin.length=o)
  (wit:∀ w∈t.aM,w.aJ t.ring/\M.mb n w) (wiu:∀ w∈u.aM,w.aJ t.ring/\M.mb n w) (f:∀ w∈t.fin,w.aJ t.ring/\M.mb n w) (h:∀ w∈u.fin,w.aJ t.ring/\M.mb n w)
  (mp:PV) {L:List aH} (D:kG l o L) (d:L.length<=4000) {K:List aE} (j:K.length<=3000000) (C:∀ x∈K,x.fit L.length) (zs:∀ a∈L,(dR t u a).sm 1048576/\(dU t u a).sm 1048576) :
  zS 28 [.ref (fA t u mp L K)] (enc (wQ t u L K (jV t u L K))):=by
 have R:(fI t u L).length=L.length:=by simp[fI]
 have O:(fF t u L).length=L.length:=by simp[fF]
 have S:=Vi r hn it iu y z wit wiu f h mp D d (K:=K) (by omega) C zs;have b:(jV t u L K).length=L.length:=by simp[jV,fG,iN,R,O]
 have G:=λm b Q ks st H I=>WI r hn it iu y z wit wiu f h mp D d K (m:=m) b (Q:=Q) (ks:=ks) (st:=st) H I;unfold wQ;generalize jV t u L K=m at *
 have J:aK (lu 0 (cW m) 0)=List.replicate L.length (f8 0):=by rw[Ii,BM,b,Ja];rfl
 refine Sp.fD c.mg (by simp) (aA.dV (t:=0) (v:=fA t u mp L K) (n:=19) (by simp) rfl) ?_;simp[g.mg,fA];refine ED S (by simp[K6,fA]) ⟨jF _ _ rfl,by decide,by simp[-gW,ens,eL];omega⟩ (by simp[HB]) ?_;have k:(RV.fresh 1 (ens m)).flat=true:=Mv m;simp[eL,k,HB];refine⟨by omega,G m b _ _ _ ((aA.b5 (s0:=3) (g0:=0) (i:=5) (s:=77) (sz:=8) rfl).trans ((aA.b5 (s0:=3) (g0:=0) (i:=6) (s:=78) (sz:=8) rfl).trans (aA.to [0,2,3,4,5,39,40,41] [((2,0),2),((3,0),3),((29,0),4),((35,0),5),((77,0),121),((78,0),122)] ?_))) ?_⟩
 .simp only[nU,J];simp[b,fA,aO]
 generalize gD m (L.map (dR t u))=E at *
 generalize gD m (L.map (dU t u))=F at *
 simp[gA,fO,nU,fA];refine WJ (t:=t) (u:=u) (N:=L.length) (by omega) j b C (A:=E) (B:=F) (cm:=gI m L.length) ((aA.b5 (s0:=3) (g0:=0) (i:=7) (s:=79) (sz:=12) rfl).trans (aA.to [2,3,4,5,81,82,83] [((2,0),2),((3,0),3),((4,0),4),((5,0),5),((121,0),121),((122,0),122),((79,0),123)] ?_)) ?_
 .simp[nT,aO]
 generalize nE m K=U at *
 simp[gA,fO,nT]
def ycf{r:aC}{M:cQ r}(f:dB M)(l:List GW)(n:Nat)(hn:n<=M.lim)(x:l.length<=1000000)(h:∀ w∈l,M.mb n w/\w.aJ r)(i:r.zero.aJ r) :
  zS 63 [enc r,.sl (ens l)] (.sl (ens (l.map λw=>r.plus w r.zero))):=by
 refine Sp.vz c.bg λ_=>?_;simp[g.bg]
 refine b6 (S:=λk:Nat=>aB [(2,i0 2),(5,.own 1 0 0 k),(8,hW l),(9,f8 l.length),(10,f8 k)] [(2,⟨2,[.p (enc r)]⟩),(1,⟨8,aK ((l.take k).map λw=>r.plus w r.zero)⟩)]) (I:=λk=>k<=l.length) (m:=λk=>l.length - k) 0
  (aA.nl 5 77 8 rfl (aA.to [2,5,8,9,10] [((2,0),2),((77,0),1)] (by simp))) (by omega) ?_
 rintro k u R b y t;have j:=aZ k;simp[g.tp,aB];refine⟨λa=>?_,λa=>t _ _ ?_⟩
 .refine bK a ?_
  try simp
  refine bA (wG r) rfl ?_
  try simp
  have d:=h _ (List.getElem_mem a);refine aW (f.pw (n:=n) hn d.2 i d.1 (M.mono M.zero (Nat.zero_le n))) ?_;simp[j];have s:l.take (k+1)=l.take k++[l[k]]:=List.take_succ_eq_append_getElem a;refine⟨⟨by omega,by omega⟩,b (k+1) _ (aA.to [2,5,8,9,10] [((2,0),2),((21,0),1)] ?_) (by omega) (by omega)⟩;have o:(l.map λw=>r.plus w r.zero).take (k+1)=(l.map λw=>r.plus w r.zero).take k++[r.plus l[k] r.zero]:=by rw[List.take_succ_eq_append_getElem (by simpa using a)];simp
  simp[aB];rw[o];simp
 .have:k=l.length:=by omega
  subst this;simp;rw[eZ (by simp),eZ (by simp)]
def Iw{r:aC}{M:cQ r}(b:dB M)(l:List GW)(n:Nat)(hn:n<=M.lim)(d:r.ok=true)(f:l.length<=64)(h:∀ w∈l,M.mb n w)(c:∀ w∈l,w.aJ r):zS 63 [enc r,.sl (ens l)] (.sl (ens l)):=by
 have k:=ycf b l n hn (by omega) (λw a=>⟨h w a,c w a⟩) (yC d)
 rwa[R5 c]at k
def Re(a:eg){M:cQ a.ring}(d:dB M)(n B:Nat)(hn:B+n<=M.lim)(i:∀ q,kc aE.key a.aD q<=B)(l:∀ w∈a.aM,M.mb n w)(k:∀ w∈a.fin,M.mb n w)(j:∀ x∈a.aD,M.mb n x.w)(f:a.sm 1048576)(o:a.aM.length<=1000000)(m:a.fin.length<=1000000) :
  zS 24 [enc a] (.bM [enc (if a.ok then a.nf else nJ),g6 (if a.ok then 0 else 4)]):=by
 refine Sp.vz c.aj λ_=>?_;simp[g.aj];refine aW (Gh a f o m) ?_;by_cases b:a.ok;rotate_left
 .rw[decide_eq_false b,bD b,bD b];simp[nJ]
 rw[decide_eq_true b,aX b,aX b];have p:=b.il;have r:=b.fl;have s:=b.st2
 simp;refine aW (Qp a.ring.parts (by have:=BP b.ring;omega)) ?_;simp;refine aW (Iw d a.aM n (by omega) b.ring (by omega) l b.aM) ?_;simp;refine aW (Iw d a.fin n (by omega) b.ring (by omega) k b.fin) ?_;simp;refine aW (P4 d a.aD n B hn i (by have:=b.al;omega) λx h=>⟨j x h,(b.aD x h).2.2.2.2.2.2.2.2⟩) ?_;simp[eg.nf]
def Xi(l m:List Int)(z:l.length<=4611686018427387904):zS 64 [.sl (ens l),.sl (ens m)] (.bool (decide (l=m))):=by
 refine Sp.vz c.m9 λ_=>?_;simp[g.m9];refine⟨λh=>?_,λh=>λt=>h (by rw[t])⟩;have b:l.length=m.length:=by omega
 refine b6 (S:=λk:Nat=>aB [(0,hW l),(1,hW m),(12,f8 l.length),(13,f8 k)] []) (I:=λk=>k<=l.length/\l.take k=m.take k) (m:=λk=>l.length - k) 0
  (aA.to [0,1,12,13] [] (by simp)) ⟨by omega,by simp⟩ ?_
 rintro k ⟨y,j⟩ R u w x;have n:=aZ k;simp[g.vd,aB];refine⟨λi=>?_,λi=>x _ _ ?_⟩
 .have a:k<m.length:=by omega
  have d:l[k]≠m[k]->l≠m:=λh o=>by subst o;exact h rfl
  refine bK i ?_
  try simp
  refine bK a ?_
  try simp
  refine⟨λf=>?_,λf=>?_⟩
  .simp[n];exact u (k+1) _ (aA.to [0,1,12,13] [] (by simp)) ⟨by omega,by rw[ed i,ed a,j,f]⟩ (by omega)
  .have s:l≠m:=d f;exact w _ (by simp[s])
 .have r:l=m:=by rw[<- List.take_length (l:=l),<- List.take_length (l:=m),<- b,show l.length=k by omega];exact j
  simp[r]
def WN(r s:aC)(b:r.parts.length<=4611686018427387904):zS 25 [enc r,enc s] (.bool (decide (r=s))):=by
 refine Sp.vz c.mc λ_=>?_;simp[g.mc];have e:decide (r=s)=(decide (r.kind=s.kind)&&decide (r.parts=s.parts)):=by cases r;cases s;simp[aC.mk.injEq]
 rw[e];by_cases a:r.kind=s.kind
 .simp[a];refine aW (Xi r.parts s.parts b) ?_;simp
 .simp[a];exact λh=>a (by rw[h])
def eA(V:eg):Prop:=V.st>64\/V.aD.length>2048
instance (V:eg):Decidable (eA V):=inferInstanceAs (Decidable (_\/_))
theorem P8{α : Type}[Enc α]{st:St}{f sz:Nat}{L:List α}(n:Nat)(h:st.site f=eK sz L):bH st (n+2) (dH f L)=some (.sl (ens L)):=by
 cases L with
 | nil=>rfl
 | cons y l =>
  show bH st (n+2) (.own f l.length 0 (l.length+1))=_;rw[Rl];have:st.obj f l.length=some ⟨sz,aK (y::l)⟩:=by unfold St.obj;rw[h];show((List.replicate l.length (none:Option bI)++[some (⟨sz,aK (y::l)⟩:bI)])[l.length]?).getD none=_;rw[qG (by simp)];simp
  rw[this];simp only[sG,vE,qH,dE,cH,Ae];rw[eZ (by rw[vE];exact dE _),Ib];rfl
def Av{α : Type}(f:Nat):List α -> List (Nat × Nat)
 | []=>[]
 | _::l=>[(f,l.length)]
theorem Pr{α : Type}[Enc α]{st:St}{f sz:Nat}{L:List α}(n:Nat)(h:st.site f=eK sz L):aS st (n+2) (dH f L)=Av f L:=by
 cases L with
 | nil=>rfl
 | cons y l =>
  show aS st (n+2) (.own f l.length 0 (l.length+1))=_;rw[z72];have:st.obj f l.length=some ⟨sz,aK (y::l)⟩:=by unfold St.obj;rw[h];show((List.replicate l.length (none:Option bI)++[some (⟨sz,aK (y::l)⟩:bI)])[l.length]?).getD none=_;rw[qG (by simp)];simp
  rw[this];show _::(aK (y::l)).flatMap (aS st (n+1))=_;have a:(aK (y::l)).flatMap (aS st (n+1))=[]:=by rw[List.flatMap_eq_nil_iff];intro v b;obtain⟨w,_,rfl⟩:=cA.1 b;rfl
  rw[a];rfl
def zTr:AV:=.agg [f8 0,.nil,f8 0,f8 0,f8 0,.nil,.nil,.nil]
def z20{α : Type}(L:List α):List (Option bI):=List.replicate L.length none
theorem ygn(T U:eg)(r:Nat)(L:List aH)(K:List aE) :
  aA ⟨[(2,i0 2),(4,i0 4),(8,i0 900000)],cZ T U r L K++[(2,[some ⟨8,[.p (enc T)]⟩]),(4,[some ⟨8,[zTr]⟩]),(aO,[none])]⟩
   ⟨[(2,i0 2),(4,i0 4),(8,i0 900000)],[(900001,z20 L),(900002,z20 K),(900000,[some ⟨19,[.p (fA T U (.fM r) L K)]⟩]),(2,[some ⟨8,[.p (enc T)]⟩]),(4,[some ⟨8,[zTr]⟩]),(aO,[none])]⟩:=by
 generalize a:(⟨[(2,i0 2),(4,i0 4),(8,i0 900000)],cZ T U r L K++[(2,[some ⟨8,[.p (enc T)]⟩]),(4,[some ⟨8,[zTr]⟩]),(aO,[none])]⟩:St)=b;have f:b.site 900001=eK 3 L:=by subst a;simp[St.site,look,cZ,cS]
 have h:b.site 900002=eK 12 K:=by subst a;simp[St.site,look,cZ,cS]
 have w:b.obj 900000 0=some ⟨19,[bL T U r (dH 900001 L) (dH 900002 K)]⟩:=by subst a;simp[St.obj,St.site,look,cZ,cS]
 have A:=P8 2 f;have B:=P8 2 h;have i:=Pr 2 f;have j:=Pr 2 h;have u:[bL T U r (dH 900001 L) (dH 900002 K)].mapM (bH b 5)=some [fA T U (.fM r) L K]:=by
  have:bH b 5 (bL T U r (dH 900001 L) (dH 900002 K))=some (fA T U (.fM r) L K):=by show(List.mapM (bH b 4) _).map PV.agg=_;simp only[Cg,List.mapM_nil,A,B];rfl
  simp only[Cg,List.mapM_nil,this];rfl
 have t:[bL T U r (dH 900001 L) (dH 900002 K)].flatMap (aS b 5)=Av 900001 L++Av 900002 K:=by show aS b 5 (bL T U r (dH 900001 L) (dH 900002 K))++[]=_;show(List.flatMap (aS b 4) _)++[]=_;simp only[jG,List.flatMap_nil,i,j,kY];rfl
 have m:=aA.yX (s:=900000) (g:=0) (n:=5) (o:=⟨19,[bL T U r (dH 900001 L) (dH 900002 K)]⟩) [fA T U (.fM r) L K] (Av 900001 L++Av 900002 K) w u t (by cases L<;>cases K<;>simp[Av]);refine m.trans ?_;subst a;have C:∀ n:Nat,(List.replicate n (none:Option bI)++[none])=List.replicate (n+1) none:=λn=>List.replicate_succ'.symm;have d:∀ (n:Nat) (x:Option bI),(List.replicate n (none:Option bI)++[x]).set n none=List.replicate (n+1) none:=λn x=>by rw[C' _ _ (by simp)];simp[C]
 clear f h w A B i j u t m;cases L with
 | nil =>
  cases K with
  | nil =>
   refine aA.cW [2,4,8] [900001,900002] [((900000,0),900000),((2,0),2),((4,0),4)] ?_;simp[aI,Av,cZ,cS,eK,dH,z20,zTr,St.setObj,aO]
  | cons z k =>
   refine aA.cW [2,4,8] [900001,900002] [((900000,0),900000),((2,0),2),((4,0),4)] ?_;simp[aI,Av,cZ,cS,eK,dH,z20,zTr,St.setObj,CR,aO,d]
 | cons y l =>
  cases K with
  | nil =>
   refine aA.cW [2,4,8] [900001,900002] [((900000,0),900000),((2,0),2),((4,0),4)] ?_;simp[aI,Av,cZ,cS,eK,dH,z20,zTr,St.setObj,CR,aO,d]
  | cons z k =>
   refine aA.cW [2,4,8] [900001,900002] [((900000,0),900000),((2,0),2),((4,0),4)] ?_;simp[aI,Av,cZ,cS,eK,dH,z20,zTr,St.setObj,CR,aO,d]
def Vq{t u T U V:eg}{e:Int}(tn:zS 24 [enc t] (.bM [enc T,g6 0]))(un:zS 24 [enc u] (.bM [enc U,g6 0]))(hp:T.ring.parts.length<=1000000)(h:T.ring=U.ring)(Y:T.o=U.i)
  {M:cQ T.ring} {n B C:Nat} (o:xG T U M n B C) (ft:T.fin.length=B) (fu:U.fin.length=C) (z:∀ w∈T.fin,w.aJ T.ring/\M.mb n w) (A:∀ w∈U.fin,w.aJ T.ring/\M.mb n w)
  {L:List aH} {K:List aE} (Q:kN T U B C=(L,K)) (O:kG B C L) (ad:L.length<=2700) {m:List aE} (tk:zS 27 [enc T.ring,.sl (ens K)] (.sl (ens m))) (E:m.length<=3000000) (X:∀ x∈m,x.fit L.length)
  (zs:∀ a∈L,(dR T U a).sm 1048576/\(dU T U a).sm 1048576) {W:eg} (S:W=wQ T U L m (jV T U L m)) (vn:¬ eA W->zS 24 [enc W] (.bM [enc V,g6 e])) :
  zS 9 [enc t,enc u] (.bM [enc (if eA W then nJ else V),g6 (if eA W then 2 else e)]):=by
 have d:(eA W/\(if eA W then nJ else V)=nJ/\(if eA W then 2 else e)=2)\/(¬ eA W/\zS 24 [enc W] (.bM [enc (if eA W then nJ else V),g6 (if eA W then 2 else e)])):=by
  by_cases b:eA W
  .exact .inl ⟨b,aX b,aX b⟩
  .rw[bD b,bD b];exact .inr ⟨b,vn b⟩
 generalize (if eA W then nJ else V)=R at *
 generalize (if eA W then 2 else e)=f at *
 have Z:=WN T.ring U.ring (by omega);rw[decide_eq_true h]at Z;have k:=λr=>yev o r;rw[Q]at k;have j:=λmp=>Vc o.mp o.hn o.it o.iu ft fu o.wit o.wiu z A mp O (by omega) E X zs;rw[<- S]at j;clear Q X zs O o z A;refine Sp.fZ c.dj (by simp) ?_;unfold g.dj;generalize hP:(λex s (_:Option FA)=>iD [(4,some 8),(5,none)] (RV.pure (.bM [enc R,g6 f])) ex s)=I;refine MR.dG ?_;simp;refine MR.dG ?_;simp;refine aW tn ?_;simp;refine MR.dG ?_;simp;refine aW un ?_;simp;refine MR.dG ?_;simp;refine aW Z ?_;simp[Y];refine MR.cK (MR.mC (AU 2 [[],[3]] ?_));simp;refine eC.cons (I4 λr=>?_);refine xT [[43,44,45],[46],[47]] ?_;simp;have D:=nO [] [];have y:=nO L K;have F:=y.sa;have G:=y.sb;have hl:=y.l;have ha:=y.a;refine MR.eE (st1:=⟨[(2,i0 2),(4,i0 4),(8,i0 900000)],cZ T U r [] []++[(2,[some ⟨8,[.p (enc T)]⟩]),(4,[some ⟨8,[.agg [f8 0,.nil,f8 0,f8 0,f8 0,.nil,.nil,.nil]]⟩]),(aO,[none])]⟩) (FH [2,4,8] [(900000,[(47,0)]),(900001,[]),(900002,[]),(2,[(2,0)]),(4,[(4,0)])] ?_ (λσ=>σ 47 0=(900000,0) /\ σ 2 0=(2,0) /\ σ 4 0=(4,0)) ?_ ?_) ?_
 .simp[AE,EP,xK,fU,aO,CU]
 .simp[nS,uA,pQ,St.site,look]
 .rintro σ ⟨s1,s2,s3⟩;simp[sL,mJ,sub,iM,gC,St.get,look,St.site,aO,s1,s2,s3,cZ,cS,bL,dH,eK,Xh,Y]
 refine MR.holds Vf ?_;refine MR.cK (MR.cK (MR.mC (AU 1 [[]] ?_)));simp;refine eC.cons (IP (k r) (DO.gH G4 _ _) rfl ?_ ?_ rfl ?_ ?_)
 .simp
 .simp[qA,St.site,look,cZ,cS,bL,dH,eK]
 .show(true&&dS eF (cZ T U r [] [])&&true&&dS eF (cZ T U r L K))=true;rw[show dS eF (cZ T U r [] [])=true from D.hp T U r,show dS eF (cZ T U r L K)=true from y.hp T U r];rfl
 refine xT [[48],[49]] ?_;simp[D6,sO];refine MR.eY (t:=false) (by simp) (λh=>by cases h) λ_=>MR.pE ?_;refine⟨λ_=>MR.eE ((aA.cW (st':=⟨[(2,i0 2),(4,i0 4),(8,i0 900000)],cZ T U r L K++[(2,[some ⟨8,[.p (enc T)]⟩]),(4,[some ⟨8,[zTr]⟩]),(aO,[none])]⟩) [2,4,8] eF [((2,0),2),((4,0),4)] ?_).trans (ygn T U r L K)) (MR.cE ?_),λh=>absurd rfl h⟩
 .simp[cZ,cS,bL,zTr,hl,ha];exact⟨F,G⟩
 simp[fA,zTr];refine aW tk ?_;simp;refine bA (j (.fM r)) (by simp[fA,Ml]) ?_;subst hP;clear S j k;obtain⟨b,rfl,rfl⟩|⟨b,H⟩:=d
 .simp only[eA]at b;simp[aI,nJ];intro J N;exfalso;omega
 .simp only[eA,not_or]at b;have J:¬ 64<W.st:=by omega
  have N:¬ (2048:Int)<W.aD.length:=by omega
  simp[aI,J,N];refine aW H ?_;simp
def Bt(a b:Bool)(t u:eg):Int:=if a=false\/b=false then 4 else if t.ring≠u.ring then 6 else if t.o≠u.i then 9 else 0
theorem Qh{t u:eg}{X:List aH × List aE}{s:Nat}(h:(dF t u X s).1.length<=s):∀ m,dF t u X (s+m)=dF t u X s
 | 0=>rfl
 | m+1=>by have a:=Qh h m;show dF t u X (s+m+1)=_;simp only[dF];rw[a,bD (by omega)]
def VW{t u T U:eg}(Y:zS 29 [enc t,enc u] (g6 0))(tf:zS 30 [enc t] (enc T))(uf:zS 30 [enc u] (enc U))(hr:t.ring=T.ring)
  {M:cQ T.ring} {n b d:Nat} (o:xG T U M n b d) (H:T.st=b) (I:U.st=d) (ft:T.fin.length=b) (fu:U.fin.length=d) (J:∀ w∈T.fin,w.aJ T.ring/\M.mb n w) (N:∀ w∈U.fin,w.aJ T.ring/\M.mb n w)
  (l:∀ s,kG b d (dF T U (lP T U d [] b,[]) s).1/\(dF T U (lP T U d [] b,[]) s).2.length<=s*1000) (G:∀ a,(qT T U a).length<=1000)
  {L:List aH} {K:List aE} (F:dF T U (lP T U d [] b,[]) (b*d*3)=(L,K)) {O W:eg} (Z:zS 30 [enc (⟨T.ring,T.i,U.o,L.length,L.map (dR T U),L.map (dU T U),K⟩:eg)] (enc O)) (kp:zS 36 [enc O] (enc W)) :
  zS 10 [enc t,enc u] (.bM [enc (if eA W then nJ else W),g6 (if eA W then 2 else 0)]):=by
 have S:=mT o.hs o.hu;have k:=(l (b*d*3)).1;rw[F]at k;have D:=k.len;simp only at D k;have m:∀ s,s=(dF T U (lP T U d [] b,[]) s).1.length->dF T U (lP T U d [] b,[]) s=(L,K):=λs B=>by
  have C:=(l s).1.len;rw[<- Qh (t:=T) (u:=U) (X:=(lP T U d [] b,[])) (s:=s) (by omega) (b*d*3 - s),<- F]
  congr 1;omega
 have p:(eA W/\(if eA W then nJ else W)=nJ/\(if eA W then 2 else(0:Int))=2)\/(¬ eA W/\(if eA W then nJ else W)=W/\(if eA W then 2 else(0:Int))=0):=by
  by_cases j:eA W
  .exact .inl ⟨j,aX j,aX j⟩
  .exact .inr ⟨j,bD j,bD j⟩
 generalize (if eA W then nJ else W)=R at *
 generalize (if eA W then 2 else(0:Int))=f at *
 have y:=λQ ks st r x=>yah o.mp o.hn o.wit o.wiu o.it H o.iu I (by have:=o.hs;omega) (by have:=o.hu;omega) (Q:=Q) (ks:=ks) (st:=st) r x;have z:=λQ ks st r x=>yg9 o l G (Q:=Q) (ks:=ks) (st:=st) r x;have A:=λQ ks st r x=>yg8 o.mp o.hn o.it o.iu ft fu o.wit o.wiu J N k (by omega) (K:=K) (Q:=Q) (ks:=ks) (st:=st) r x;refine Sp.vz c.dm λ_=>?_;simp[g.dm];refine aW Y ?_;simp;refine aW tf ?_;simp;refine aW uf ?_;simp;refine y _ _ _ (aA.nl 8 77 3 rfl (aA.to [2,3,4,7,8,9] [((2,0),2),((3,0),3),((4,0),4),((7,0),7),((77,0),8)] ?_)) ?_
 .simp[AA,aB,zTT,hr]
 clear y;generalize lP T U d [] b=L0 at *
 simp[gA,fO,AA,aB,zTT];refine z _ _ _ ((aA.b5 (s0:=11) (g0:=0) (i:=7) (s:=78) (sz:=12) rfl).trans (aA.to [2,3,4,7,8,11,12] [((2,0),2),((3,0),3),((4,0),4),((7,0),7),((8,0),8),((11,0),11),((78,0),31)] ?_)) λs B=>?_
 .simp[Ay,aB,zTT,gR]
 have V:=m s B;rw[V]at B ⊢;clear m z V l F;simp only at B ⊢;have E:¬ (4096:Int)<L.length:=by omega
 simp[gA,fO,Ay,aB,zTT,gR,E];refine A _ _ _ ((aA.b5 (s0:=11) (g0:=0) (i:=5) (s:=78) (sz:=8) rfl).trans ((aA.b5 (s0:=11) (g0:=0) (i:=6) (s:=79) (sz:=8) rfl).trans (aA.to [2,3,4,7,8,11,15] [((2,0),2),((3,0),3),((4,0),4),((7,0),7),((8,0),8),((11,0),11),((31,0),31),((78,0),32),((79,0),33)] ?_))) ?_
 .simp[c5S,aB,zTT,gR]
 clear A;simp only[c5S];generalize L.map (dR T U)=A1 at *
 generalize L.map (dU T U)=A2 at *
 simp[gA,fO,aB,zTT,gR];refine aW Z ?_;simp[aI];refine aW kp ?_;simp[aI];obtain⟨j,rfl,rfl⟩|⟨j,rfl,rfl⟩:=p
 .simp only[eA]at j;simp[nJ];intro C;omega
 .simp only[eA,not_or]at j;have C:¬ 64<R.st:=by omega
  have h2:¬ (2048:Int)<R.aD.length:=by omega
  simp[C,h2]
theorem yby{t u:eg}{a b:Bool}(j:zS 52 [enc t] (.bool a))(k:zS 52 [enc u] (.bool b)):zS 29 [enc t,enc u] (g6 (Bt a b t u)):=by
 have h:=OS t.ring u.ring;refine Sp.vz c.je λ_=>?_;simp[g.je];refine aW j ?_;unfold Bt;cases a with
 | false=>simp
 | true =>
  simp;refine aW k ?_;cases b with
  | false=>simp
  | true =>
   simp;refine aW h ?_;by_cases d:t.ring=u.ring
   .by_cases f:t.o=u.i
    .simp[d,f]
    .simp[d,f]
   .simp[d]
theorem Uc{α : Type}{key : α -> List Int}{up : α -> α -> α}(l:List α)(h:eH key l):eU key up id l=l:=by
 generalize a:l.length=n
 induction n generalizing l with
 | zero=>rw[q9 a];rfl
 | succ n f =>
  obtain rfl|⟨l,x,rfl⟩:=B' l
  .simp at a
  rw[xV]at *
  obtain⟨b,_,d⟩:=List.pairwise_append.1 h;rw[Lt,f l b (by simpa using a)];obtain rfl|⟨o,z,rfl⟩:=List.eq_nil_or_concat l
  .rfl
  .rw[xV,CI (key:=key) (z:=z) (y:=x) λe=>?_]
   .simp
   .have:=d z (by simp) x (by simp);rw[e]at this;exact pU _ this
def Pb{α : Type}{key : α -> List Int}{l:List α}(h:eH key l):jQ key l:=h.imp λ{a b} d f=>pU _ (Ca d f)
def SY{r:aC}{l:List aE}(h:eH aE.key l)(b:∀ x∈l,x.w≠r.zero):cV r l=l:=by unfold cV;rw[AF (Pb h),Uc l h,GL];intro x a;simp[b x a]
def X5(r:aC)(l:List aE):eH aE.key (cV r l):=by unfold cV;have h:=(Ez (key:=aE.key) (up:=lE r) (nw:=id) (λ_ _=>rfl) (λ_=>rfl) _ (bW aE.key l) rfl (gB l).1).1;exact h.filter _
def K5{r:aC}{l:List aE}:∀ x∈cV r l,x.w≠r.zero:=λx a=>by have:=(List.mem_filter.1 a).2;simpa using this
def Pe{r:aC}{l:List aE}:∀ x∈cV r l,∃ y∈l,x.key=y.key:=λx b=>by have a:=(kI.1 b).1;obtain⟨y,d,e⟩:=(Ez (key:=aE.key) (up:=lE r) (nw:=id) (λ_ _=>rfl) (λ_=>rfl) _ (bW aE.key l) rfl (gB l).1).2.1 x a;exact⟨y,((gB l).2.2 y).1 d,e⟩
theorem ygf{l:List aE}(h:eH aE.key l)(q:List Int):kc aE.key l q<=1:=by
 unfold kc
 induction l with
 | nil=>simp
 | cons x l k =>
  obtain⟨d,f⟩:=mS.1 h;rw[List.countP_cons];by_cases a:x.key=q
  .have:l.countP (λy=>decide (y.key=q))=0:=by
    rw[List.countP_eq_zero];intro y j i;have b:y.key=q:=by simpa using i
    have:=d y j;rw[a,b]at this;exact pU _ this
   rw[this];simp[a]
  .have:=k f;simp[a];omega
def Tc(m:List Bool){i:Nat}:∀ {j:Nat},i<=j->gI m i<=gI m j:=λ{j} h=>by
 unfold gI;have:m.take i=(m.take j).take i:=by rw[GY,uN h]
 rw[this];exact List.Sublist.count_le true (Js i (m.take j))
def M8{m:List Bool}{i j:Nat}(b:i<m.length)(d:m[i]=true)(h:i<j):gI m i<gI m j:=by have a:=K' b;rw[d]at a;have f:=Tc m (i:=i+1) (j:=j) h;have:(true:Bool).toNat=1:=rfl;omega
def DT{m:List Bool}{i:Nat}(a:m.getD i false=true):(cW m).getD i 0=(gI m i:Nat):=by
 have b:i<m.length:=by apply GK;intro h;rw[eV,E0 (by omega)]at a;cases a
 have d:i<(cW m).length:=by rw[BM];exact b
 rw[eV,dO d,xW,HW b];rw[eV,dO b,xW]at a;rw[aX a]
def Ie{m:List Bool}{i:Nat}(a:m.getD i false=true):∃ h:i<m.length,m[i]=true:=by
 have b:i<m.length:=by apply GK;intro h;rw[eV,E0 (by omega)]at a;cases a
 refine⟨b,?_⟩;rw[eV,dO b,xW]at a;exact a
def Xs{m:List Bool}{x:aE}{N:Nat}(i:m.length=N)(j:x.fit N)(hp:x7 m x=true) :
  (rX m x).f=(gI m x.f.toNat:Nat)/\(rX m x).t=(gI m x.t.toNat:Nat)/\gI m x.f.toNat<gI m N/\gI m x.t.toNat<gI m N:=by
 unfold x7 at hp;rw[jO]at hp;obtain⟨a,b⟩:=Ie hp.1;obtain⟨d,h⟩:=Ie hp.2;exact⟨DT hp.1,DT hp.2,M8 a b (by omega),M8 d h (by omega)⟩
def R4{m:List Bool}{i j:Nat}(a:m.getD i false=true)(b:m.getD j false=true):gI m i<gI m j ↔ i<j:=by
 obtain⟨d,f⟩:=Ie a;obtain⟨l,n⟩:=Ie b;constructor
 .intro h;apply GK;intro k;have:=Tc m (i:=j) (j:=i) (by omega);omega
 .exact M8 d f
def ybi{m:List Bool}{l:List aE}{N:Nat}(r:∀ x∈l,x.fit N)(h:eH aE.key l):eH aE.key (nE m l):=by
 unfold nE eH;rw[Jr];refine JD ?_ (h.filter (x7 m));intro x y u w a;obtain⟨H,d⟩:=kI.1 u;obtain⟨I,j⟩:=kI.1 w;obtain⟨⟨J,_⟩,K,_⟩:=r x H;obtain⟨⟨L,_⟩,M,_⟩:=r y I;unfold x7 at d j;rw[jO]at d j;have z:(rX m x).f=(gI m x.f.toNat:Nat):=DT d.1;have A:(rX m x).t=(gI m x.t.toNat:Nat):=DT d.2;have B:(rX m y).f=(gI m y.f.toNat:Nat):=DT j.1;have C:(rX m y).t=(gI m y.t.toNat:Nat):=DT j.2;have D:(rX m x).i=x.i:=rfl;have E:(rX m x).o=x.o:=rfl;have F:(rX m y).i=y.i:=rfl;have G:(rX m y).o=y.o:=rfl;have O:=R4 d.1 j.1;have Q:=R4 d.2 j.2;unfold aE.key at a ⊢;rw[z,A,B,C,D,E,F,G];simp only[GJ]at a ⊢;obtain n|⟨n,b⟩:=a
 .exact .inl (by omega)
 .rw[n];obtain b|⟨b,k⟩:=b
  .exact .inr ⟨rfl,.inl b⟩
  .obtain k|⟨k,p⟩:=k
   .exact .inr ⟨rfl,.inr ⟨b,.inl k⟩⟩
   .obtain p|⟨_,s⟩:=p
    .exact .inr ⟨rfl,.inr ⟨b,.inr ⟨k,.inl (by omega)⟩⟩⟩
    .exact absurd s (pU _)
theorem Sk{x:aH}:∀ {L:List aH} {i j:Nat},iE x L i=some j->i<=j/\j<i+L.length
 | y::L,i,j,h=>by
  simp only[iE]at h;split at h
  .cases h;simp
  .have:=Sk (L:=L) h;simp only[qH];omega
def Z0{x:aH}{L:List aH}(h:x∈L):0<=oN x L/\oN x L<(L.length:Int):=by rw[Uf h];have:=Sk (KT h);omega
structure OA (t u:eg) (N s:Nat) (x:aE):Prop where
 f0:0<=x.f
 fs:x.f<s
 f:x.f<N
 t0:0<=x.t
 tl:x.t<N
 r:∃ a,∃ r∈qT t u a,x.i=r.m.i/\x.o=r.m.o/\x.w=r.m.w
theorem LO{t u:eg}{L0:List aH}:∀ s,∀ x∈(dF t u (L0,[]) s).2,OA t u (dF t u (L0,[]) s).1.length s x
 | 0,x,a=>by simp[dF]at a
 | s+1,x,a=>by
  have i:=LO (t:=t) (u:=u) (L0:=L0) s;simp only[dF]at a ⊢;by_cases b:s<(dF t u (L0,[]) s).1.length
  .rw[aX b]at a ⊢;generalize dF t u (L0,[]) s=X at *
   unfold zJ at a ⊢;simp only[gQ]at a ⊢;obtain a|a:=dN.1 a
   .have:=i x a;exact⟨this.f0,by have:=this.fs;omega,by have:=this.f;omega,this.t0,by have:=this.tl;omega,this.r⟩
   .obtain⟨r,h,rfl⟩:=cA.1 a;have k:r.m.t∈X.1++uq X.1 (qT t u (X.1.getD s ⟨0,0,0⟩)):=by
     by_cases d:r.m.t∈X.1
     .exact Cf _ d
     .exact List.mem_append_right _ (((Lw X.1 _).2 _).2 ⟨⟨r,h,rfl⟩,d⟩)
    have j:=Z0 k;rw[gQ]at j;exact⟨by simp only;omega,by simp only;omega,by simp only;omega,by simp only;omega,by simp only;omega,⟨X.1.getD s ⟨0,0,0⟩,r,h,rfl,rfl,rfl⟩⟩
  .rw[bD b]at a ⊢;have:=i x a;exact⟨this.f0,by have:=this.fs;omega,this.f,this.t0,this.tl,this.r⟩
theorem T0{t u:eg}{L0:List aH}{B:Nat}(l:∀ a,(qT t u a).length<=B):∀ s q,kc aE.key (dF t u (L0,[]) s).2 q<=B
 | 0,q=>by simp[dF,kc]
 | s+1,q=>by
  have y:=T0 (t:=t) (u:=u) (L0:=L0) l s q;have A:=LO (t:=t) (u:=u) (L0:=L0) s;simp only[dF];by_cases d:s<(dF t u (L0,[]) s).1.length
  .rw[aX d];generalize dF t u (L0,[]) s=X at *
   have z:=l (X.1.getD s ⟨0,0,0⟩);unfold zJ;simp only;unfold kc at y ⊢;rw[List.countP_append];by_cases p:∃ b,q=(s:Int)::b
   .obtain⟨b,rfl⟩:=p;have j:X.2.countP (λx=>decide (x.key=(s:Int)::b))=0:=by
     rw[List.countP_eq_zero];intro x k h;have n:x.key=(s:Int)::b:=by simpa using h
     have:x.f=s:=by unfold aE.key at n;exact(List.cons.inj n).1
     have:=(A x k).fs;omega
    rw[j,sG];exact dM List.countP_le_length (by rw[ra];exact z)
   .have j:((qT t u (X.1.getD s ⟨0,0,0⟩)).map λx=>(⟨s,x.m.i,x.m.o,oN x.m.t (X.1++uq X.1 (qT t u (X.1.getD s ⟨0,0,0⟩))),x.m.w⟩:aE)).countP (λx=>decide (x.key=q))=0:=by rw[List.countP_eq_zero];intro x k h;obtain⟨r,_,rfl⟩:=cA.1 k;rw[decide_eq_true_eq]at h;exact p ⟨[r.m.i,r.m.o,oN r.m.t (X.1++uq X.1 (qT t u (X.1.getD s ⟨0,0,0⟩)))],h.symm⟩
    rw[j];omega
  .rw[bD d];exact y
def Zt{t u:eg}{a:aH}(k:∀ x∈t.aD,0<=x.i/\x.i<=t.i)(f:∀ y∈u.aD,0<=y.o/\y.o<=u.o)(h:0<=t.i)(j:0<=u.o):∀ m∈tL t u a,(0<=m.i/\m.i<=t.i)/\0<=m.o/\m.o<=u.o:=by
 intro m hm;unfold tL at hm;obtain hm|hm:=dN.1 hm
 .obtain⟨x,d,hm⟩:=kC.1 hm;have d:=k x (kI.1 d).1;unfold qP at hm;obtain hm|hm:=dN.1 hm
  .unfold wW at hm;split at hm
   .rw[iT]at hm;subst hm;exact⟨d,by simp only;omega,j⟩
   .cases hm
  .obtain⟨y,b,hm⟩:=kC.1 hm;have b:=f y (kI.1 b).1;unfold pZ at hm;split at hm
   .rw[iT]at hm;subst hm;exact⟨d,b⟩
   .cases hm
 .obtain⟨y,b,hm⟩:=kC.1 hm;have b:=f y (kI.1 b).1;unfold rD at hm;split at hm
  .rw[iT]at hm;subst hm;exact⟨⟨by simp only;omega,h⟩,b⟩
  .cases hm
def X3{r:aC}(i:r.ok=true){a b:List aE}(h:a.Perm b)(d:∀ x∈a,x.w.aJ r):cV r a=cV r b:=by have f:∀ x∈b,x.w.aJ r:=λx k=>d x (h.mem_iff.2 k);refine yec (key:=aE.key) (wt:=aE.w) (up:=lE r) i (λ_ _=>rfl) (λ_ _=>rfl) (λx y h j=>Wx.2 ⟨h,j⟩) d f λp=>?_;exact ycx i h d p
structure pO {r:aC} (M:cQ r) (n:Nat) (R:eg):Prop where
 ok:R.ok
 ring:R.ring=r
 nf:cV r R.aD=R.aD
 aM:∀ w∈R.aM,M.mb n w
 fin:∀ w∈R.fin,M.mb n w
 aD:∀ x∈R.aD,M.mb (1000+n) x.w
 ss:eH aE.key R.aD
structure pP (t u:eg) (M:cQ t.ring) (n:Nat):Prop where
 tok:t.ok
 vN:u.ok
 ring:t.ring=u.ring
 UM:t.o=u.i
 mp:dB M
 hn:2000+n+n+1<=M.lim
 wti:∀ w∈t.aM,M.mb n w
 wtf:∀ w∈t.fin,M.mb n w
 wta:∀ x∈t.nf.aD,M.mb n x.w
 wui:∀ w∈u.aM,M.mb n w
 wuf:∀ w∈u.fin,M.mb n w
 wua:∀ x∈u.nf.aD,M.mb n x.w
 hs:t.st<=30
 hu:u.st<=30
 h3:t.st.toNat*u.st.toNat*3<=100
 ta:t.nf.aD.length<=900
 ua:u.nf.aD.length<=900
 ml:∀ a,(tL t.nf u.nf a).length<=1000
def pP.bd{t u:eg}{M:cQ t.ring}{n:Nat}(h:pP t u M n):xG t.nf u.nf M n t.st.toNat u.st.toNat:=by
 have to:=DV h.tok;have f:=DV h.vN;have k:=h.tok.il;have l:=h.vN.il;have s1:=h.tok.st1;have p:=h.vN.st1;have m:=h.hs;have o:=h.hu;have d:=h.ring
 exact {
  mp:=h.mp
  hn:=by have:=h.hn;omega
  hs:=by omega
  hu:=by omega
  it:=by show t.aM.length=_;omega
  iu:=by show u.aM.length=_;omega
  wit:=λw b=>⟨h.tok.aM w b,h.wti w b⟩
  wiu:=λw b=>⟨by show w.aJ t.ring;rw[d];exact h.vN.aM w b,h.wui w b⟩
  wat:=λx a=>⟨(to.aD x a).2.2.2.2.2.2.2.2,h.wta x a⟩
  wau:=λx a=>⟨by show x.w.aJ t.ring;rw[d];exact(f.aD x a).2.2.2.2.2.2.2.2,h.wua x a⟩
  at_:=h.ta
  au:=h.ua
  to:=⟨λx a=>by have:=to.aD x a;have i:=this.2.2.1;have j:x.t<t.st:=this.2.2.2.1;omega,λx a=>by have:=f.aD x a;have i:=this.2.2.1;have j:x.t<u.st:=this.2.2.2.1;omega⟩
  ml:=h.ml }
def pP.rv{t u:eg}{M:cQ t.ring}{n:Nat}(h:pP t u M n):∀ a,qT t.nf u.nf a=(sK t.nf u.nf a).map kH.mk:=λa=>
 Za (λx b=>⟨((DV h.tok).aD x b).2.2.2.2.2.2.1,K5 x b⟩) (λy d=>by show y.w≠t.ring.zero;rw[h.ring];exact K5 y d) a
def YW{T U:eg}{M:cQ T.ring}{n j k:Nat}(u:T.ring.ok=true)(it:T.aM.length=j)(iu:U.aM.length=k)(s:T.fin.length=j)(t:U.fin.length=k)
  (wit:∀ w∈T.aM,w.aJ T.ring/\M.mb n w) (wiu:∀ w∈U.aM,w.aJ T.ring/\M.mb n w) (o:∀ w∈T.fin,w.aJ T.ring/\M.mb n w) (r:∀ w∈U.fin,w.aJ T.ring/\M.mb n w)
  {a:aH} (b:(0<=a.p/\a.p<j)/\(0<=a.q/\a.q<k)):((dR T U a).aJ T.ring/\M.mb (n+n+1) (dR T U a))/\((dU T U a).aJ T.ring/\M.mb (n+n+1) (dU T U a)):=by
 have g:∀ (l:List GW) (m:Nat) (x:Int),l.length=m->0<=x->x<m->l.getD x.toNat dT∈l:=λl m x A y z=>by
  have:x.toNat<l.length:=by omega
  rw[eV,dO this];exact bU this
 have d:=wit _ (g _ _ _ it b.1.1 b.1.2);have f:=wiu _ (g _ _ _ iu b.2.1 b.2.2);have h:=o _ (g _ _ _ s b.1.1 b.1.2);have i:=r _ (g _ _ _ t b.2.1 b.2.2);refine⟨?_,Eu h.1 i.1,M.times h.1 i.1 h.2 i.2⟩;unfold dR;split
 .exact⟨Eu d.1 f.1,M.times d.1 f.1 d.2 f.2⟩
 .exact⟨yC u,M.mono M.zero (vI _)⟩
def yed{r:aC}(M:cQ r){n B:Nat}{l:List aE}(h:∀ x∈l,M.mb n x.w/\x.w.aJ r)(b:∀ q,kc aE.key l q<=B):∀ x∈cV r l,M.mb (B+n) x.w/\x.w.aJ r:=λx a=>by have d:=gB (key:=aE.key) l;have:=QQ M (l:=bW aE.key l) (λx a=>h x ((d.2.2 x).1 a)) (bW aE.key l).length (dE _) x (by rw[kK];exact(kI.1 a).1);rw[kK,FL (F6 l)]at this;exact⟨M.mono this.1 (by have:=b x.key;omega),this.2⟩
def Iu(r:aC)(l:List aE):(cV r l).length<=l.length:=by unfold cV;refine dM (kB _ _) ?_;have:=FE (key:=aE.key) (up:=lE r) (nw:=id) (λ_ _=>rfl) (λ_=>rfl) (bW aE.key l) (bW aE.key l).length (dE _);rw[kK,(gB l).2.1]at this;exact this
def zaW(t u:eg):List aH × List aE:=dF t.nf u.nf (lP t.nf u.nf u.st.toNat [] t.st.toNat,[]) (t.st.toNat*u.st.toNat*3)
def uZ(t u:eg):eg:=wQ t.nf u.nf (zaW t u).1 (cV t.ring (zaW t u).2) (jV t.nf u.nf (zaW t u).1 (cV t.ring (zaW t u).2))
def Vp{t u:eg}{M:cQ t.ring}{n:Nat}(h:pP t u M n)(tn:zS 24 [enc t] (.bM [enc t.nf,g6 0]))(un:zS 24 [enc u] (.bM [enc u.nf,g6 0]))
  (tf:zS 30 [enc t] (enc t.nf)) (uf:zS 30 [enc u] (enc u.nf)) (vt:zS 52 [enc t] (.bool true)) (vu:zS 52 [enc u] (.bool true)) :
  ∃ (R:eg) (e:Int),zS 9 [enc t,enc u] (.bM [enc R,g6 e])/\zS 10 [enc t,enc u] (.bM [enc R,g6 e])/\((¬ eA (uZ t u)/\R=uZ t u/\e=0/\pO M (n+n+1) R/\R.i=t.i/\R.o=u.o)\/(eA (uZ t u)/\e=2/\R=nJ)):=by
 unfold uZ zaW;have o:=h.bd;have J:=h.rv;have hr:t.ring=u.ring:=h.ring;have to:=DV h.tok;have uo:=DV h.vN;have cf:t.nf.st=(t.st.toNat:Nat):=by show t.st=_;have:=h.tok.st1;omega
 have cm:u.nf.st=(u.st.toNat:Nat):=by show u.st=_;have:=h.vN.st1;omega
 have ft:t.nf.fin.length=t.st.toNat:=by show t.fin.length=_;have:=h.tok.fl;omega
 have fu:u.nf.fin.length=u.st.toNat:=by show u.fin.length=_;have:=h.vN.fl;omega
 have al:∀ w∈t.nf.fin,w.aJ t.nf.ring/\M.mb n w:=λw j=>⟨h.tok.fin w j,h.wtf w j⟩;have ao:∀ w∈u.nf.fin,w.aJ t.nf.ring/\M.mb n w:=λw j=>⟨by show w.aJ t.ring;rw[hr];exact h.vN.fin w j,h.wuf w j⟩;have ca:jM t.nf u.nf [] t.st.toNat=lP t.nf u.nf u.st.toNat [] t.st.toNat:=by
  have:=(Uv t.nf u.nf t.st.toNat).1
  rwa[o.iu]at this
 have I:=λs=>UA J (X:=(jM t.nf u.nf [] t.st.toNat,[])) (X':=(lP t.nf u.nf u.st.toNat [] t.st.toNat,[])) ca (List.Perm.refl _) s;have bx:=Jg (t:=t.nf) (u:=u.nf) (kG.nil t.st.toNat u.st.toNat) (Ba o.iu) (dE _);have S:=λs=>FT o.to o.ml (X:=(jM t.nf u.nf [] t.st.toNat,[])) bx rfl s;have ag:∀ s,kG t.st.toNat u.st.toNat (dF t.nf u.nf (lP t.nf u.nf u.st.toNat [] t.st.toNat,[]) s).1/\(dF t.nf u.nf (lP t.nf u.nf u.st.toNat [] t.st.toNat,[]) s).2.length<=s*1000:=λs=>by have h1:=S s;rw[(I s).1,(I s).2.length_eq]at h1;exact h1
 have ad:∀ a,(qT t.nf u.nf a).length<=1000:=λa=>by rw[J,ra];exact dM (kB _ _) (h.ml a)
 have z:=LO (t:=t.nf) (u:=u.nf) (L0:=lP t.nf u.nf u.st.toNat [] t.st.toNat) (t.st.toNat*u.st.toNat*3);have H:=T0 (t:=t.nf) (u:=u.nf) (L0:=lP t.nf u.nf u.st.toNat [] t.st.toNat) ad (t.st.toNat*u.st.toNat*3);have au:kN t.nf u.nf t.st.toNat u.st.toNat=dL t.nf u.nf (jM t.nf u.nf [] t.st.toNat,[]) (t.st.toNat*u.st.toNat*3):=rfl;obtain⟨q1,q2⟩:=I (t.st.toNat*u.st.toNat*3);obtain⟨r1,r2⟩:=ag (t.st.toNat*u.st.toNat*3);generalize hY:dF t.nf u.nf (lP t.nf u.nf u.st.toNat [] t.st.toNat,[]) (t.st.toNat*u.st.toNat*3)=Y at *
 generalize hZ:dL t.nf u.nf (jM t.nf u.nf [] t.st.toNat,[]) (t.st.toNat*u.st.toNat*3)=Z at *
 obtain⟨L,p⟩:=Y;obtain⟨d,Kp⟩:=Z;simp only at q1 q2 r1 r2 z H;subst q1;have h3:=h.h3;have cs:=r1.len;have aq:p.length<=100000:=by have:t.st.toNat*u.st.toNat*3*1000<=100*1000:=jU _ h3;omega
 have br:=ag;have aw:=ad;clear I S ag ad hZ;have wK:∀ x∈p,M.mb (n+n+1) x.w/\x.w.aJ t.ring:=λx k=>by obtain⟨a,r,G,_,_,j⟩:=(z x k).r;rw[J]at G;obtain⟨m,hm,rfl⟩:=cA.1 G;rw[j];have:=SE (t:=t.nf) (u:=u.nf) (M:=M) (n:=n) (a:=a) o.wat o.wau m (kI.1 hm).1;exact⟨this.2,this.1⟩
 have lK:∀ x∈p,(0<=x.i/\x.i<=t.i)/\0<=x.o/\x.o<=u.o:=λx k=>by obtain⟨a,r,G,hi,ho,_⟩:=(z x k).r;rw[J]at G;obtain⟨m,hm,rfl⟩:=cA.1 G;rw[hi,ho];have i1:=h.tok.i1;have o1:=h.vN.o1;exact Zt (t:=t.nf) (u:=u.nf) (λx k=>⟨(to.aD x k).2.2.2.2.1,(to.aD x k).2.2.2.2.2.1⟩) (λy C=>⟨(uo.aD y C).2.2.2.2.2.2.1,(uo.aD y C).2.2.2.2.2.2.2.1⟩) (by show 0<=t.i;omega) (by show 0<=u.o;omega) m (kI.1 hm).1
 have bu:=X3 (r:=t.ring) h.tok.ring q2 (λx k=>(wK x (q2.mem_iff.1 k)).2);have A:∀ x∈cV t.ring p,x.fit d.length:=λx k=>by
  obtain⟨y,C,e⟩:=Pe x k;have fy:=z y C;unfold aE.key at e;injection e with e1 e;injection e with e2 e;injection e with e3 e;injection e with e4 e
  exact⟨⟨by rw[e1];exact fy.f0,by rw[e1];exact fy.f⟩,by rw[e4];exact fy.t0,by rw[e4];exact fy.tl⟩
 have bt:∀ x∈cV t.ring p,(0<=x.i/\x.i<=t.i)/\0<=x.o/\x.o<=u.o:=λx k=>by
  obtain⟨y,C,e⟩:=Pe x k;have ly:=lK y C;unfold aE.key at e;injection e with e1 e;injection e with e2 e;injection e with e3 e
  rw[e2,e3];exact ly
 have hn:=h.hn;have w2:=yed M wK H;have cc:=Iu t.ring p;have co:=K5 (r:=t.ring) (l:=p);have cp:=X5 t.ring p;have tk:=P4 h.mp Kp (n+n+1) 1000 (by omega) (λq=>by rw[FL q2];exact H q) (by rw[q2.length_eq];exact aq) (λx k=>wK x (q2.mem_iff.1 k));rw[bu]at tk;have we:=λa (F:a∈d)=>YW (T:=t.nf) (U:=u.nf) (M:=M) h.tok.ring o.it o.iu ft fu o.wit o.wiu al ao (a:=a) ⟨(r1.b a F).1,(r1.b a F).2.1⟩;have O:∀ w∈d.map (dR t.nf u.nf),w.aJ t.ring/\M.mb (n+n+1) w:=λw j=>by obtain⟨a,F,rfl⟩:=cA.1 j;exact(we a F).1
 have N:∀ w∈d.map (dU t.nf u.nf),w.aJ t.ring/\M.mb (n+n+1) w:=λw j=>by obtain⟨a,F,rfl⟩:=cA.1 j;exact(we a F).2
 have zs:∀ a∈d,(dR t.nf u.nf a).sm 1048576/\(dU t.nf u.nf a).sm 1048576:=λa F=>
  ⟨(h.mp.pr (n:=n+n+1) (by omega) (we a F).1.1 (we a F).1.2).mono (by omega),(h.mp.pr (n:=n+n+1) (by omega) (we a F).2.1 (we a F).2.2).mono (by omega)⟩
 have fo:=Qx (⟨t.ring,t.i,u.o,(d.length:Int),d.map (dR t.nf u.nf),d.map (dU t.nf u.nf),p⟩:eg) (M:=M) h.mp (n+n+1) 1000 (by omega) H aq (λw j=>(O w j).2) (λw j=>(N w j).2) (λx k=>(wK x k).1) (by have:=BP h.tok.ring;show t.ring.parts.length<=_;omega) (by simp only;omega) (by simp) (by simp) (λw j=>(O w j).1) (λw j=>(N w j).1) (λx k=>(wK x k).2);have lI:(fI t.nf u.nf d).length=d.length:=by simp[fI]
 have lF:(fF t.nf u.nf d).length=d.length:=by simp[fF]
 have bo:Dx (⟨t.ring,t.i,u.o,(d.length:Int),d.map (dR t.nf u.nf),d.map (dU t.nf u.nf),cV t.ring p⟩:eg)=jV t.nf u.nf d (cV t.ring p):=by
  have e1:kV t.ring (d.map (dR t.nf u.nf))=fI t.nf u.nf d:=by unfold kV fI;rw[yG];rfl
  have e2:kV t.ring (d.map (dU t.nf u.nf))=fF t.nf u.nf d:=by unfold kV fF;rw[yG];rfl
  unfold Dx jV;simp only;rw[e1,e2,S4 (Y1 A) lI,S4 (Y0 A) lF]
 have kp:=Xo (⟨t.ring,t.i,u.o,(d.length:Int),d.map (dR t.nf u.nf),d.map (dU t.nf u.nf),cV t.ring p⟩:eg) d.length (by omega) rfl (by simp) (by simp) (by show(cV t.ring p).length<=_;omega) A
  (λw j=>(h.mp.pr (n:=n+n+1) (by omega) (O w j).1 (O w j).2).mono (by omega)) (λw j=>(h.mp.pr (n:=n+n+1) (by omega) (N w j).1 (N w j).2).mono (by omega))
 rw[bo]at kp;have af:(jV t.nf u.nf d (cV t.ring p)).length=d.length:=by simp[jV,fG,iN,lI,lF]
 have av:Oq (⟨t.ring,t.i,u.o,(d.length:Int),d.map (dR t.nf u.nf),d.map (dU t.nf u.nf),cV t.ring p⟩:eg) (jV t.nf u.nf d (cV t.ring p)) d.length=wQ t.nf u.nf d (cV t.ring p) (jV t.nf u.nf d (cV t.ring p)):=rfl;rw[av]at kp;have er:=yby vt vu;have bk:Bt true true t u=0:=by simp[Bt,hr,h.UM]
 rw[bk]at er;have rc:=VW er tf uf rfl o cf cm ft fu al ao br aw hY fo kp;clear er tf uf hY fo kp bo z H wK lK q2 av vt vu bk;have cu:(wQ t.nf u.nf d (cV t.ring p) (jV t.nf u.nf d (cV t.ring p))).st=(gI (jV t.nf u.nf d (cV t.ring p)) d.length:Nat):=rfl;have ap:=λV (hV:_->_)=>Vq (V:=V) (e:=0) tn un (by have:=BP h.tok.ring;show t.ring.parts.length<=_;omega) hr h.UM o ft fu al ao au r1 (by omega) tk (by omega) A zs rfl hV;generalize hm:jV t.nf u.nf d (cV t.ring p)=m at *
 have wA:∀ x∈nE m (cV t.ring p),(∃ y∈cV t.ring p,x7 m y=true/\x=rX m y):=λx k=>by obtain⟨y,C,rfl⟩:=cA.1 k;exact⟨y,(kI.1 C).1,(kI.1 C).2,rfl⟩
 have K:=ybi (m:=m) A cp;have D:∀ x∈nE m (cV t.ring p),M.mb (1000+(n+n+1)) x.w/\x.w.aJ t.ring/\x.w≠t.ring.zero:=λx k=>by obtain⟨y,C,_,rfl⟩:=wA x k;exact⟨(w2 y C).1,(w2 y C).2,co y C⟩
 have On:(gD m (d.map (dR t.nf u.nf))).length=gI m d.length:=by rw[CM (by simp[af])];unfold gI;rw[eZ (by omega)]
 have cn:(gD m (d.map (dU t.nf u.nf))).length=gI m d.length:=by rw[CM (by simp[af])];unfold gI;rw[eZ (by omega)]
 have ct:=M7 m d.length;have Q:∀ W,W=wQ t.nf u.nf d (cV t.ring p) m->¬ eA W->W.ok/\W.nf=W:=λW B E=>by
  have f1:W.ring=t.ring:=by rw[B];rfl
  have f2:W.i=t.i:=by rw[B];rfl
  have f3:W.o=u.o:=by rw[B];rfl
  have f4:W.st=(gI m d.length:Nat):=by rw[B];rfl
  have f5:W.aM=gD m (d.map (dR t.nf u.nf)):=by rw[B];rfl
  have f6:W.fin=gD m (d.map (dU t.nf u.nf)):=by rw[B];rfl
  have f7:W.aD=nE m (cV t.ring p):=by rw[B];rfl
  simp only[eA,not_or]at E;have ce:cV W.ring W.aD=W.aD:=by rw[f1,f7];exact SY K λx k=>(D x k).2.2
  refine⟨⟨by rw[f1];exact h.tok.ring,by rw[f2];exact h.tok.i1,by rw[f3];exact h.vN.o1,by rw[f4];omega,by omega,by rw[f4,f5,On],by rw[f4,f6,cn],by omega,λx k=>?_,λw j=>?_,λw j=>?_⟩,?_⟩
  .rw[f7]at k;have j:=(D x k).2.1;obtain⟨y,C,hp,rfl⟩:=wA x k;obtain⟨k1,k2,k3,k4⟩:=Xs af (A y C) hp;obtain⟨⟨l1,l2⟩,l3,l4⟩:=bt y C;have k5:(rX m y).i=y.i:=rfl;have k6:(rX m y).o=y.o:=rfl;unfold z';rw[f1,f2,f3,f4,k1,k2,k5,k6];exact⟨by omega,by omega,by omega,by omega,l1,l2,l3,l4,j⟩
  .rw[f1];rw[f5]at j;exact(O w (xP j)).1
  .rw[f1];rw[f6]at j;exact(N w (xP j)).1
  .unfold eg.nf;rw[ce]
 have bb:∀ W,W=wQ t.nf u.nf d (cV t.ring p) m->¬ eA W->pO M (n+n+1) W/\W.i=t.i/\W.o=u.o:=λW B E=>by
  obtain⟨c1,c2⟩:=Q W B E;have f1:W.ring=t.ring:=by rw[B];rfl
  have f5:W.aM=gD m (d.map (dR t.nf u.nf)):=by rw[B];rfl
  have f6:W.fin=gD m (d.map (dU t.nf u.nf)):=by rw[B];rfl
  have f7:W.aD=nE m (cV t.ring p):=by rw[B];rfl
  exact⟨⟨c1,f1,by rw[f7];exact SY K λx k=>(D x k).2.2,λw j=>by rw[f5]at j;exact(O w (xP j)).2,λw j=>by rw[f6]at j;exact(N w (xP j)).2,λx k=>by rw[f7]at k;exact(D x k).1,by rw[f7];exact K⟩,by rw[B];rfl,by rw[B];rfl⟩
 have vn:¬ eA (wQ t.nf u.nf d (cV t.ring p) m)->zS 24 [enc (wQ t.nf u.nf d (cV t.ring p) m)] (.bM [enc (wQ t.nf u.nf d (cV t.ring p) m),g6 0]):=λE=>by
  obtain⟨c1,c2⟩:=Q _ rfl E
  have:=Re (wQ t.nf u.nf d (cV t.ring p) m) (M:=M) h.mp (1000+(n+n+1)) 1 (by omega) (λq=>ygf K q) (λw j=>M.mono (O w (xP j)).2 (by omega)) (λw j=>M.mono (N w (xP j)).2 (by omega)) (λx k=>(D x k).1)
   ⟨λw j=>(h.mp.pr (n:=n+n+1) (by omega) (O w (xP j)).1 (O w (xP j)).2).mono (by omega),λw j=>(h.mp.pr (n:=n+n+1) (by omega) (N w (xP j)).1 (N w (xP j)).2).mono (by omega),λx k=>(h.mp.pr (n:=1000+(n+n+1)) (by omega) (D x k).2.1 (D x k).1).mono (by omega)⟩
   (by show(gD m _).length<=_;omega) (by show(gD m _).length<=_;omega)
  rw[aX c1,aX c1,c2]at this;exact this
 have g:=ap _ vn;generalize B:wQ t.nf u.nf d (cV t.ring p) m=W at *
 by_cases E:eA W
 .rw[aX E,aX E]at g rc;exact⟨nJ,2,g,rc,.inr ⟨E,rfl,rfl⟩⟩
 .rw[bD E,bD E]at g rc;obtain⟨a1,a2,a3⟩:=bb W rfl E;exact⟨W,0,g,rc,.inl ⟨E,rfl,rfl,a1,a2,a3⟩⟩
end Go.Ab
