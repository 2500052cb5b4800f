/- Lemmas for the law AmbiguityOfDeterministic, part 36. No conditions. -/
import Derived.Test.YtcemegnnejaahaaGreatDoorAP35
set_option maxRecDepth 100000
set_option maxHeartbeats 4000000
set_option linter.all false
namespace Go.Ab
open Enc (enc)
attribute [local simp] zaj Opd.slots
noncomputable abbrev twA(a:GAuto):Option (List Int):=tw2 (tgT a.nf (usV a.nf a.st.toNat)) a.st.toNat (fun s=>usf (usV a.nf a.st.toNat) s&&nzI a.nf s) (nzF a.nf) a.sy.toNat
theorem z8j(a:GAuto):grwA a=0 ↔ twA a=none:=by
 unfold grwA grw twA;cases h:tw2 (tgT a.nf (usV a.nf a.st.toNat)) a.st.toNat (fun s=>usf (usV a.nf a.st.toNat) s&&nzI a.nf s) (nzF a.nf) a.sy.toNat with
 | none=>simp
 | some w =>
  simp only[Option.isSome_some,yqh,ymb,reduceCtorEq,iff_false]
  repeat' split
  all_goals omega
theorem z4r{a:GAuto}(M:Md a){v:List Int}(hv:∀ x∈v,1<=x/\x<=a.sy)(h:∀ w,twA a=some w->slt v w):cntA a.nf a.st.toNat v<=1:=by
 have hA:=M.lk.ctr;have hel:(usV a.nf a.st.toNat).length=a.st.toNat:=zbf _ _ _ _;have ok:=GAuto.vb_iff.1 M.lk.vb;have esy:(a.sy.toNat:Int)=a.sy:=by have:=ok.sy1;omega
 have ht:∀ x∈a.nf.arcs,0<=x.t:=fun x hx=>(hA.t x hx).1;refine Nat.le_of_not_lt fun hc=>?_;obtain⟨n,h1,h2⟩:=yhz M.lk.srt M.lk.stOk ht (sy:=a.sy.toNat) (w:=v) (fun x hx=>by have:=hv x hx;omega) hc;have e:tgt a.nf (usB a.nf a.st.toNat)=tgT a.nf (usV a.nf a.st.toNat):=(z01 M.lk.srt _).symm;rw[e]at h1;have lt:=fun m l=>zot (zh2 hA hel) m l;cases hr:twA a with
 | none =>
  have:=z05 (goal:=gl2 a.st.toNat (nzF a.nf)) lt znt hr v n h1;rw[h2]at this;cases this
 | some w=>exact z6m (goal:=gl2 a.st.toNat (nzF a.nf)) lt znt hr v n h1 h2 (h w hr)
def prS(a:GAuto)(ws w:List Int)(ok:Bool)(i:Nat):St:=mkSt [(1,.p (.sl (ens ws))),(5,.ptr 5 0 0 0),(6,.p (.sl (ens w))),(7,.p (.bool ok)),(11,.ptr 11 0 0 0),(15,.p (.int .i64 i))] [(5,⟨7,[.p (enc a)]⟩),(11,⟨3,[.p (enc (natR 1))]⟩)]
theorem z2e{a:GAuto}(M:Md a){ws w:List Int}{ok:Bool}(hw:w.length<=256)(hf:∀ v:List Int,(∀ x∈v,1<=x/\x<=a.sy)->(ok=false\/slt v w)->cntA a.nf a.st.toNat v<=1)
  {Q:Exit->St->Prop} {ks:List Kt} {st:St} (h0:Weak st (prS a ws w ok 0)) (hx:∀ i,zb8 P 120 Q (zay 0 ks) 0 (prS a ws w ok i)):vL P 120 Q g.ph ks st:=by
 have okA:=GAuto.vb_iff.1 M.lk.vb;have y1:=okA.sy1;have y2:=okA.sy2;refine zag (S:=fun i:Nat=>prS a ws w ok i) (I:=fun i=>i<=8) (m:=fun i=>8 - i) 0 h0 (yn0 _) ?_;intro i hi R hn hr hx';have e1:=i64s i;have hxx:zb8 P 120 Q (zay 0 ks) 0 (prS a ws w ok i):=hx i;by_cases hl1:i<ws.length
 ·simp[g.ph,prS,mkSt,hl1];refine⟨fun hl2=>?_,fun hl2=>hx' _ _ (by simpa[prS,mkSt]using hxx)⟩;have hend:∀ st',Weak st' (prS a ws w ok (i+1))->R .normal st':=fun st' h=>hn (i+1) st' h (by omega) (by omega);obtain⟨sy,hsy⟩:∃ sy:Nat,a.sy=(sy:Int):=⟨a.sy.toNat,by omega⟩;refine zae hl1 ?_;generalize ws[i]'hl1=z at *
  obtain⟨vok,vlen⟩:=z7v z (s:=sy) (by omega);have hnum:=zy8 z sy (by omega);rw[<- hsy]at vok hnum;generalize zqd sy (numK z sy)=v at *
  have hcs:=zq9 M.lk (w:=v) (by omega) vok.2.2;have hlt:=zvl M.lk (w:=v) (by omega);have hcmp:=zvm _ 1 hlt (zpx (by omega));have hfew:=hf v vok.2.2;generalize cntA a.nf a.st.toNat v=n at *
  obtain⟨cv,hgt,hcmp⟩:∃ cv:Int,(n<=1->¬ 0<cv)/\Sp P F.aj [enc (natR n),enc (natR 1)] (.pure (.int .i64 cv)):=⟨_,fun h=>by
   by_cases h1:n<1
   ·rw[ym0 h1];omega
   ·rw[yl9 h1,yl9 (by omega)];omega,hcmp⟩
  refine zab hnum ?_;simp;refine⟨fun hL=>?_,fun hL=>⟨fun hE0=>?_,fun hE=>?_⟩⟩
  ·have hn1:=hgt (hfew (.inr (.inl hL)));refine zab hcs ?_;cases ok with
   | false =>
    simp;refine zab hcmp ?_;simp[hn1,e1];exact hend _ (Weak.to [1,5,6,7,11,15] [((5,0),5),((11,0),11)] (by simp[prS,mkSt]))
   | true =>
    simp;refine zab hcmp ?_;simp[hn1,e1];exact hend _ (Weak.to [1,5,6,7,11,15] [((5,0),5),((11,0),11)] (by simp[prS,mkSt]))
  ·have hE:v.length=w.length:=by omega
   refine zab (z3w v w hE (by omega)) ?_;cases hls:lesW v w with
   | true =>
    have hn1:=hgt (hfew (.inr (.inr ⟨hE,zxv.1 hls⟩)));simp;refine zab hcs ?_;cases ok with
    | false =>
     simp;refine zab hcmp ?_;simp[hn1,e1];exact hend _ (Weak.to [1,5,6,7,11,15] [((5,0),5),((11,0),11)] (by simp[prS,mkSt]))
    | true =>
     simp;refine zab hcmp ?_;simp[hn1,e1];exact hend _ (Weak.to [1,5,6,7,11,15] [((5,0),5),((11,0),11)] (by simp[prS,mkSt]))
   | false =>
    simp;refine zab hcs ?_;cases ok with
    | false =>
     have hn1:=hgt (hfew (.inl rfl));simp;refine zab hcmp ?_;simp[hn1,e1];exact hend _ (Weak.to [1,5,6,7,11,15] [((5,0),5),((11,0),11)] (by simp[prS,mkSt]))
    | true =>
     simp[e1];exact hend _ (Weak.to [1,5,6,7,11,15] [((5,0),5),((11,0),11)] (by simp[prS,mkSt]))
  ·refine zab hcs ?_;cases ok with
   | false =>
    have hn1:=hgt (hfew (.inl rfl));simp;refine zab hcmp ?_;simp[hn1,e1];exact hend _ (Weak.to [1,5,6,7,11,15] [((5,0),5),((11,0),11)] (by simp[prS,mkSt]))
   | true =>
    simp[e1];exact hend _ (Weak.to [1,5,6,7,11,15] [((5,0),5),((11,0),11)] (by simp[prS,mkSt]))
 ·simp[g.ph,prS,mkSt,hl1];refine hx' _ _ ?_;simpa[prS,mkSt]using hxx
theorem lawPairs_sp(p:GPlan)(ws:List Int):Sp P F.ou [enc p,.sl (ens ws)] (.pure (.bool true)):=by
 have M:Md (zgj wkT p 4):=zli (by omega) (by omega);have ap:=zln zk5 p 4 (by omega) (by omega);have kn:=zj6;have mk1:=yan 1 (by omega);have hst4:=zsp (p:=p);generalize zgj wkT p 4=a at *
 have pa:=z7s M.lk;have ga:=zg6 M.lk;have gz:=z8j a;have hA:=M.lk.ctr;have hel:(usV a.nf a.st.toNat).length=a.st.toNat:=zbf _ _ _ _;have okA:=GAuto.vb_iff.1 M.lk.vb;have y1:=okA.sy1;have hN:a.st.toNat<=4:=by omega
 have b2:2*a.st.toNat*a.st.toNat<=2*4*4:=ymf (ynu 2 hN) hN;have two:∀ w,twA a=some w->2<=cntA a.nf a.st.toNat w/\w.length<=256/\∀ x∈w,1<=x/\x<=a.sy:=by
  intro w h;obtain⟨h1,h2,h3⟩:=z7r hA hel h;refine⟨h1,?_,fun x hx=>by have:=h3 x hx;omega⟩;rcases h2 with rfl|h2
  ·simp
  ·omega
 have few:=fun v hv h=>z4r M (v:=v) hv h
 have pa:Sp P F.gm [enc a] (.pure (match twA a with
  | some w=>.tup [.sl (ens w),.bool true,.int .i64 0]
  | none=>.tup [.sl [],.bool false,.int .i64 0])):=pa
 generalize twA a=r1 at *
 generalize grwA a=G at *
 refine Sp.vz c.ou fun _=>?_;simp[g.ou];refine zaa ap (by simp[wkT]) ?_;simp;refine zab pa ?_;cases r1 with
 | none =>
  have G0:G=0:=gz.2 rfl;subst G0;simp;refine zab ga ?_;simp;refine zab mk1 ?_;simp;refine z2e M (ws:=ws) (w:=[]) (ok:=false) (by simp) (fun v hv _=>few v hv fun w h=>by cases h) (Weak.to [1,5,6,7,11,15] [((5,0),5),((11,0),11)] (by simp[prS,mkSt])) fun i=>?_;simp[prS,mkSt];refine zab kn ?_;simp
 | some w =>
  have G0:¬ G=0:=fun h=>by have:=gz.1 h;cases this
  obtain⟨t1,t2,t3⟩:=two w rfl;have hcs:=zq9 M.lk (w:=w) t2 t3;have hlt:=zvl M.lk (w:=w) t2;have hcmp:=zvm _ 1 hlt (zpx (by omega));simp;refine zab ga ?_;simp[G0];refine zab mk1 ?_;simp;refine⟨G0,fun _=>?_⟩;refine zab hcs ?_;simp;obtain⟨cv,hgt,hcmp⟩:∃ cv:Int,¬ cv<=0/\Sp P F.aj [enc (natR (cntA a.nf a.st.toNat w)),enc (natR 1)] (.pure (.int .i64 cv)):=⟨_,by
   rw[yl9 (by omega),ym0 (by omega)];omega,hcmp⟩
  refine zab hcmp ?_;simp[hgt];refine z2e M (ws:=ws) (w:=w) (ok:=true) t2 (fun v hv h=>few v hv fun w' h'=>by
   simp only[ym1]at h';subst h';rcases h with h|h
   ·cases h
   ·exact h) (Weak.to [1,5,6,7,11,15] [((5,0),5),((11,0),11)] (by simp[prS,mkSt])) fun i=>?_
  simp[prS,mkSt];refine zab kn ?_;simp
end Go.Ab
set_option linter.all false
namespace Go.Ab
open Enc (enc)
section
variable {H:Type} {en:TypeId × Value->H} {w:World}
theorem rdInt(n:Nat):RdN en P w n T.int (IsC Int):=yf4 ty.int
theorem rdBool(n:Nat):RdN en P w n T.bool (IsC Bool):=yb8 ty.bool
theorem rdInts(n:Nat):RdN en P w n T.ints (IsC (List Int)):=z7a (fun _=>rfl) (fun _=>rfl) ty.ints ty.cell fun k _=>rdInt k
theorem gplan_one(x:GPlan):(enc x).cells.all PV.one=true:=by simp[PV.cells]
theorem rdPlan(n:Nat):RdN en P w n T.plan (IsC GPlan):=z2a (Ds:=[IsC Int,IsC Int,IsC Bool,IsC Bool,IsC (List Int)]) ty.plan rfl (fun m _=>⟨rdInt m,rdInt m,rdBool m,rdBool m,rdInts m,trivial⟩) fun ls h=>by obtain⟨_,ls1,rfl,⟨a,rfl⟩,h1⟩:=h.cons;obtain⟨_,ls2,rfl,⟨b,rfl⟩,h2⟩:=h1.cons;obtain⟨_,ls3,rfl,⟨c,rfl⟩,h3⟩:=h2.cons;obtain⟨_,ls4,rfl,⟨d,rfl⟩,h4⟩:=h3.cons;obtain⟨_,ls5,rfl,⟨e,rfl⟩,h5⟩:=h4.cons;obtain rfl:=h5.nil;exact⟨⟨a,b,c,d,e⟩,by simp[PV.cells]⟩
end
end Go.Ab
