/- Lemmas for the law ComposeBuildsMadeModels, part 26. No conditions. -/
import Derived.Test.YthhdboljpgdcpaaGreatDoorAP25
set_option maxRecDepth 100000
set_option maxHeartbeats 4000000
set_option linter.all false
namespace Go.Ab
open Enc (enc)
attribute [local simp] fX bL.aR
def dI:aS:=⟨false,[],[]⟩
def Ee:GW:=.mk dI 0 false 0 [] []
def GW.si(k:Int)(w:GW):Prop:=w.parts=[]/\(k≠1->k≠3->w.q=dI)/\(k≠2->w.inf=false/\w.cost=0)/\(k≠4->w.set=0)/\(k≠5->w.aP=[]) /\
 (k=1->w.q.valid=true)/\(k=2->0<=w.cost/\w.cost<=1099511627776/\(w.inf=true->w.cost=0))/\(k=3->w.q.valid=true/\0<=w.q.v/\w.q.v<=1)/\(k=5->bM w.aP)
noncomputable instance (k:Int) (w:GW):Decidable (w.si k):=Classical.propDecidable _
theorem xX{x:UInt64}:x.toNat=0 ↔ x=0:=by rw[<- UInt64.toNat_inj];rfl
def wL{α : Type}{l:List α}:0<l.length ↔ l≠[]:=Ca
def wB{w:GW}:w.si 1 ↔ w.parts=[]/\w.inf=false/\w.cost=0/\w.set=0/\w.aP=[]/\w.q.valid=true:=by simp[GW.si,and_assoc]
def oV{w:GW}:w.si 2 ↔ w.parts=[]/\w.q=dI/\w.set=0/\w.aP=[]/\0<=w.cost/\w.cost<=1099511627776/\(w.inf=true->w.cost=0):=by simp[GW.si]
def vG{w:GW}:w.si 3 ↔ w.parts=[]/\w.inf=false/\w.cost=0/\w.set=0/\w.aP=[]/\w.q.valid=true/\0<=w.q.v/\w.q.v<=1:=by simp[GW.si,and_assoc]
def yU{w:GW}:w.si 4 ↔ w.parts=[]/\w.q=dI/\w.inf=false/\w.cost=0/\w.aP=[]:=by simp[GW.si,and_assoc]
def xV{w:GW}:w.si 5 ↔ w.parts=[]/\w.q=dI/\w.inf=false/\w.cost=0/\w.set=0/\bM w.aP:=by simp[GW.si,and_assoc]
def HC{q:Rat}:0<=kH q ↔ 0<=q:=by rw[<- Rat.num_nonneg];unfold kH;(repeat' split)<;>omega
def EC:(cH 1).sm 1:=⟨oF (by decide),by decide⟩
def WZ(w:GW)(k:w.sm 1048576):zS 149 [.int .i64 1,enc w] (.bool (decide (w.si 1))):=by
 refine Sp.vz c.aj λ_=>?_;obtain b|b:=ju w.inf
 .simp[g.aj];refine bF (xi w.q dI (k.q.mono (by omega))) rfl ?_;simp[b];exact⟨λ_ h=>by have:=(wB.1 h).2;simp[b]at this,λ_ h=>by have:=(wB.1 h).2;simp[b]at this⟩
 .simp[g.aj];refine bF (xi w.q dI (k.q.mono (by omega))) rfl ?_;simp[b];simp only[wB,xX,wL,b];refine⟨λd h=>d h.1,λd=>⟨λf=>⟨λi=>⟨λj h=>j h.2.2.2.2.1,λj=>?_⟩,λi h=>i h.2.2.2.1⟩,λf h=>f h.2.2.1⟩⟩;refine bF (Hk w.q (k.q.mono (by omega))) rfl ?_;simp[d,f,i,j]
def W0(w:GW)(m:w.sm 1048576):zS 149 [.int .i64 2,enc w] (.bool (decide (w.si 2))):=by
 refine Sp.vz c.aj λ_=>?_;obtain l|l:=ju w.inf
 .simp[g.aj];refine bF (xi w.q dI (m.q.mono (by omega))) rfl ?_;simp[l];simp only[oV,xX,wL,l];refine⟨λb h=>b h.1,λb=>⟨λd=>⟨λf=>⟨λi h=>i h.2.2.2.1,λi=>⟨λj=>⟨λk=>?_,λk h=>?_⟩,λj h=>?_⟩⟩,λf h=>f h.2.2.1⟩,λd h=>d h.2.1⟩⟩
  .simp[b,d,f,i,j,k]
  .have:=h.2.2.2.2.2.1;omega
  .have:=h.2.2.2.2.1;omega
 .simp[g.aj];refine bF (xi w.q dI (m.q.mono (by omega))) rfl ?_;simp[l];simp only[oV,xX,wL,l];refine⟨λb h=>b h.1,λb=>⟨λd=>⟨λf=>⟨λi h=>i h.2.2.2.1,λi=>⟨λj=>⟨λk=>?_,λk h=>?_⟩,λj h=>?_⟩⟩,λf h=>f h.2.2.1⟩,λd h=>d h.2.1⟩⟩
  .simp[b,d,f,i,j,k]
  .have:=h.2.2.2.2.2.1;omega
  .have:=h.2.2.2.2.1;omega
def W1(w:GW)(f:w.sm 1048576):zS 149 [.int .i64 3,enc w] (.bool (decide (w.si 3))):=by
 refine Sp.vz c.aj λ_=>?_;obtain b|b:=ju w.inf
 .simp[g.aj];refine bF (xi w.q dI (f.q.mono (by omega))) rfl ?_;simp[b];exact⟨λ_ h=>by have:=(vG.1 h).2;simp[b]at this,λ_ h=>by have:=(vG.1 h).2;simp[b]at this⟩
 .simp[g.aj];refine bF (xi w.q dI (f.q.mono (by omega))) rfl ?_;simp[b];simp only[vG,xX,wL,b];refine⟨λi h=>i h.1,λi=>⟨λj=>⟨λk=>⟨λl h=>l h.2.2.2.2.1,λl=>?_⟩,λk h=>k h.2.2.2.1⟩,λj h=>j h.2.2.1⟩⟩;refine bF (Hk w.q (f.q.mono (by omega))) rfl ?_;obtain n|n:=ju w.q.valid;rotate_left
  .simp[i,j,k,l,n]
  simp[i,j,k,l,n];refine bF (EU w.q (f.q.mono (by omega))) rfl ?_;simp;refine⟨λp=>?_,λp=>?_⟩
  .have r:Rat.divInt 1 1=1:=rfl;have d:=yn 1 1 (by omega) (by omega) (by omega);rw[r]at d;refine bF d rfl ?_;simp;refine bF (NT (cH 1) w.q (EC.mono (by omega)) f.q) rfl ?_;have o:=HC.1 p;simp[iN,o];by_cases m:1<w.q.v
   .simp[m,Rat.not_le.2 m]
   .simp[m,Cd.1 m]
  .have o:¬ 0<=w.q.v:=λh=>by have:=HC.2 h;omega
   simp[o]
def W2(w:GW)(k:w.sm 1048576):zS 149 [.int .i64 4,enc w] (.bool (decide (w.si 4))):=by
 refine Sp.vz c.aj λ_=>?_;obtain b|b:=ju w.inf
 .simp[g.aj];refine bF (xi w.q dI (k.q.mono (by omega))) rfl ?_;simp[b];exact⟨λ_ h=>by have:=(yU.1 h).2;simp[b]at this,λ_ h=>by have:=(yU.1 h).2;simp[b]at this⟩
 .simp[g.aj];refine bF (xi w.q dI (k.q.mono (by omega))) rfl ?_;simp[b];simp only[yU,wL,b];refine⟨λd h=>d h.1,λd=>⟨λf=>⟨λi=>⟨λj h=>j h.2.2.2.2,λj=>by simp[d,f,i,j]⟩,λi h=>i h.2.2.2.1⟩,λf h=>f h.2.1⟩⟩
def W3(w:GW)(d:w.sm 1048576):zS 149 [.int .i64 5,enc w] (.bool (decide (w.si 5))):=by
 refine Sp.vz c.aj λ_=>?_;obtain b|b:=ju w.inf
 .simp[g.aj];refine bF (xi w.q dI (d.q.mono (by omega))) rfl ?_;simp[b];exact⟨λ_ h=>by have:=(xV.1 h).2;simp[b]at this,λ_ h=>by have:=(xV.1 h).2;simp[b]at this⟩
 .simp[g.aj];refine bF (xi w.q dI (d.q.mono (by omega))) rfl ?_;simp[b];simp only[xV,xX,wL,b];refine⟨λf h=>f h.1,λf=>⟨λi=>⟨λj=>⟨λk=>?_,λk h=>k h.2.2.2.2.1⟩,λj h=>j h.2.2.2.1⟩,λi h=>i h.2.1⟩⟩;refine bF (Pq w.aP d.aP (by have:=d.len;omega)) rfl ?_;simp[f,i,j,k]
def O0(k:Int)(w:GW)(d:1<=k/\k<=5)(b:w.sm 1048576):zS 149 [.int .i64 k,enc w] (.bool (decide (w.si k))):=by
 have:k=1\/k=2\/k=3\/k=4\/k=5:=by omega
 obtain rfl|rfl|rfl|rfl|rfl:=this
 .exact WZ w b
 .exact W0 w b
 .exact W1 w b
 .exact W2 w b
 .exact W3 w b
def GW.aQ(r:aB)(w:GW):Prop:=r.ok=true/\(r.kind≠6->w.si r.kind)/\(r.kind=6->w.parts.length=r.parts.length/\w=.mk dI 0 false 0 [] w.parts/\∀ i,(h:i<r.parts.length)->(b:i<w.parts.length)->w.parts[i].si r.parts[i])
noncomputable instance (r:aB) (w:GW):Decidable (w.aQ r):=Classical.propDecidable _
def aB.cC{r:aB}(h:r.ok=true)(b:r.kind≠6):1<=r.kind/\r.kind<=5/\r.parts=[]:=by simp only[aB.ok,aY b,decide_eq_true_eq]at h;exact h
def aB.bQ{r:aB}(h:r.ok=true)(b:r.kind=6):2<=r.parts.length/\r.parts.length<=3/\∀ k∈r.parts,1<=k/\k<=5:=by simp only[aB.ok,aW b,decide_eq_true_eq]at h;exact h
@[simp] theorem GW.qI(q:aS)(c:Int)(i:Bool)(s:UInt64)(p:List aF)(ps:List GW):(GW.mk q c i s p ps).q=q:=rfl
@[simp] theorem GW.kA(q:aS)(c:Int)(i:Bool)(s:UInt64)(p:List aF)(ps:List GW):(GW.mk q c i s p ps).cost=c:=rfl
@[simp] theorem GW.jX(q:aS)(c:Int)(i:Bool)(s:UInt64)(p:List aF)(ps:List GW):(GW.mk q c i s p ps).inf=i:=rfl
@[simp] theorem GW.set_mk(q:aS)(c:Int)(i:Bool)(s:UInt64)(p:List aF)(ps:List GW):(GW.mk q c i s p ps).set=s:=rfl
@[simp] theorem GW.gP(q:aS)(c:Int)(i:Bool)(s:UInt64)(p:List aF)(ps:List GW):(GW.mk q c i s p ps).aP=p:=rfl
@[simp] theorem GW.c6(q:aS)(c:Int)(i:Bool)(s:UInt64)(p:List aF)(ps:List GW):(GW.mk q c i s p ps).parts=ps:=rfl
@[simp] theorem yl2:dI.neg=false:=rfl
@[simp] theorem yl1:dI.num=[]:=rfl
@[simp] theorem yl3:dI.den=[]:=rfl
def CL(n:Nat):dI.sm n:=⟨by simp[dI],by simp[dI]⟩
def GW.sm.bP{n:Nat}{ps:List GW}(h:ps.length<=n)(k:∀ w∈ps,w.sm n):(GW.mk dI 0 false 0 [] ps).sm n:=.mk (CL n) (by intro m hm;simp at hm) (by simp) h k
def Hc(r:aB)(w:GW)(s:w.sm 1048576):zS 108 [enc r,enc w] (.bool (decide (w.aQ r))):=by
 refine Sp.vz c.fe λ_=>?_;simp[g.fe];refine bF (oQ r) rfl ?_;obtain b|b:=ju r.ok;rotate_left
 .simp[b,GW.aQ]
 simp[b];refine⟨λd=>?_,λd=>?_⟩;rotate_left
 .have f:=aB.cC b d;refine bA (O0 r.kind w ⟨f.1,f.2.1⟩ s) ?_;simp[GW.aQ,b,d]
 refine⟨λz=>?_,λz h=>?_⟩;rotate_left
 .have:=(h.2.2 d).1;omega
 have u:w.parts.length=r.parts.length:=by omega
 have D:=aB.bQ b d;refine bA (He (.mk dI 0 false 0 [] w.parts) (.bP s.wE s.parts) w) ?_;by_cases o:GW.mk dI 0 false 0 [] w.parts=w;rotate_left
 .simp[o];exact λh=>o (h.2.2 d).2.1.symm
 simp[o]
 refine cQ (S:=λk:Nat=>aD [(2,.ptr 1 0 0 0),(3,.ptr 2 0 0 0),(5,.p (.int .i64 k))] [(1,⟨2,[.p (enc r)]⟩),(2,⟨8,[.p (enc w)]⟩)]) (I:=λk=>k<=r.parts.length/\∀ i,(h:i<r.parts.length)->(l:i<w.parts.length)->i<k->w.parts[i].si r.parts[i]) (m:=λk=>r.parts.length - k) 0
  (aA.to [2,3,5] [((2,0),1),((3,0),2)] (by simp)) ⟨by omega,λi h l G=>by omega⟩ ?_
 rintro k ⟨H,x⟩ R C E F;have y:=bH k;simp[g.tr,aD];refine⟨λf=>?_,λf=>F _ _ ?_⟩
 .have j:k<w.parts.length:=by omega
  refine bK f ?_;refine bK j ?_;refine bA (O0 r.parts[k] w.parts[k] (D.2.2 _ (bV f)) (s.parts _ (bV j))) ?_;by_cases n:w.parts[k].si r.parts[k]
  .simp[n,y];refine C (k+1) _ (aA.to [2,3,5] [((1,0),1),((2,0),2)] (by simp)) ⟨by omega,λi h l J=>?_⟩ (by omega);by_cases t:i<k
   .exact x i h l t
   .have:i=k:=by omega
    subst this;exact n
  .simp[n];refine E _ ?_;have:¬ w.aQ r:=λh=>n ((h.2.2 d).2.2 k f j);simp[this]
 .have:w.aQ r:=⟨b,λh=>absurd d h,λ_=>⟨u,o.symm,λi h l=>x i h l (by omega)⟩⟩;simp[this]
def Ss(m n:aF):m=n ↔ (m.e.a=n.e.a/\m.e.b=n.e.b/\m.e.c=n.e.c)/\m.aX=n.aX:=by obtain⟨⟨a,b,c⟩,q⟩:=m;obtain⟨⟨d,f,h⟩,i⟩:=n;simp
def Xy(m n:aF)(j:m.aX.sm 1048576):zS 168 [enc m,enc n] (.bool (decide (m=n))):=by
 refine Sp.vz c.jj λ_=>?_;simp[g.jj];refine⟨λb d f=>?_,λh=>?_⟩
 .refine bF (PU m.aX n.aX (j.mono (by omega))) rfl ?_;simp[Ss,b,d,f]
 .have i:m≠n:=λe=>by obtain⟨⟨b,d,f⟩,_⟩:=(Ss m n).1 e;exact h b d f
  simp[i]
def BP(v:GW)(b:v.sm 1048576):∀ w:GW,zS 128 [enc v,enc w] (.bool (decide (v=w))):=by
 revert v;refine GW.sm.ind λv b p w=>?_;refine Sp.vz c.bc λo=>?_;simp[g.bc];refine bF (PU v.q w.q (b.q.mono (by omega))) rfl ?_;by_cases d:v.q=w.q;rotate_left
 .have:v≠w:=λh=>d (by rw[h]);simp[d,this]
 simp[d];refine⟨λi=>?_,λi=>?_⟩;rotate_left
 .exact λh=>i (by rw[h])
 refine⟨λj=>?_,λj=>?_⟩;rotate_left
 .exact λh=>j (by rw[h])
 refine⟨λn=>?_,λk=>?_⟩;rotate_left
 .exact λh=>k (by rw[h])
 have k:v.set=w.set:=UInt64.toNat_inj.1 (by omega);refine bF (U8 v.aP w.aP 168 (by have:=b.len;omega) λx m y _=>Xy x y (b.aP x m)) rfl ?_;by_cases f:v.aP=w.aP;rotate_left
 .have:v≠w:=λh=>f (by rw[h]);simp[f,this]
 simp[f];refine bF (UW v.parts w.parts 128 (by have:=b.wE;omega) λx m y _=>p x m y) rfl ?_;by_cases l:v.parts=w.parts
 .have:v=w:=GW.ext d i j k f l;simp[this]
 .have:v≠w:=λh=>l (by rw[h]);simp[l,this]
end Go.Ab
namespace Go.Ab
open Enc (enc)
section
variable {P:Program} {K:Ctx} {Z Z':Cz} {st st' st1 st2:St} {w w':World} {a:Act} {N:Nat} {ex:Exit} {A B:Option FA} {Post:Exit->St->Option FA->Prop} {b4:St->Option FA->Prop}
def UT{c:Callee}{i:Array TypeId}{d:List bL}{f:FuncId}{b:List bL}(h:A5 P c i d=some (.call f b)):∃ g,c=.value g/\dJ g=some (.c (.p (.fn f [])))/\d=b:=by
 unfold A5 at h;split at h
 .grind
 .grind
 .exfalso
  repeat' split at h
  all_goals first
   | cases h
   | (obtain⟨_,_,h⟩:=cM h;cases h)
def nF{α : Type}{x:Option α}{f : α -> Option c7}{d:FuncId}{b:List bL}(h:x.bind f=some (.call d b))(k:∀ y,f y≠some (.call d b)):False:=by obtain⟨y,_,h⟩:=kW h;exact k y h
def u'{α : Type}{x:Option α}{f : α -> c7}{d:FuncId}{b:List bL}(h:x.map f=some (.call d b))(k:∀ y,f y ≠ .call d b):False:=by simp_all
def Uk{t:TypeId}{m k:Operand}{c:Bool}{d:FuncId}{b:List bL}(h:BG P t m k c=some (.call d b)):False:=by
 unfold BG at h
 repeat' split at h
 all_goals first
  | exact nF h λ_ h=>nF h λ_ h=>nF h λ_ h=>u' h λ_ h=>by cases h
  | cases h
def UI{t:TypeId}{x:Operand}{i f mx:Option Operand}{d:FuncId}{b:List bL}(h:De P t x i f mx=some (.call d b)):False:=by
 unfold De at h
 repeat' split at h
 all_goals first
  | exact nF h λ_ h=>nF h λ_ h=>u' h λ_ h=>by cases h
  | cases h
def T1{f:BinOp}{x y:bL}{d:FuncId}{b:List bL}(h:BA f x y=some (.call d b)):False:=by
 unfold BA at h
 grind
def Ut{f:Fn}{x y:Array Operand}{d:FuncId}{b:List bL}(h:C6 f x y=some (.call d b)):False:=by
 unfold C6 at h
 repeat' split at h
 all_goals first
  | exact u' h λ_ h=>by cases h
  | cases h
def La{f:Op}{i:FuncId}{b:List bL}(h:oC P f=some (.call i b)):∃ d h,f=.call d/\d.callee=.value h/\dJ h=some (.c (.p (.fn i [])))/\oP d.args.toList=some b:=by
 cases f
 case call c =>
  obtain⟨j,o,h⟩:=kW h;obtain⟨g,l,n,rfl⟩:=UT h
  grind
 case lookup t m k c=>exact(Uk h).elim
 case slice=>exact(UI h).elim
 case makeFunc=>exact(Ut h).elim
 case move|assign|alloc|box|nilCheck|extract=>exact(u' h λ_ h=>by cases h).elim
 case pick=>exact(nF h λ_ h=>nF h λ_ h=>u' h λ_ h=>by cases h).elim
 case binOp =>
  refine(nF h λ_ h=>nF h λ_ h=>?_).elim;split at h
  .grind
  .grind
  .exact T1 h
  .simp_all
 case unOp =>
  refine(nF h λ_ h=>?_).elim;split at h<;>cases h
 case convert =>
  refine(nF h λ_ h=>?_).elim;split at h<;>cases h
 case load=>refine(nF h λ_ h=>?_).elim;split at h<;>cases h
 case store=>refine(nF h λ_ h=>nF h λ_ h=>?_).elim;split at h<;>cases h
 case build =>
  simp only[oC]at h;split at h
  .refine(nF h λ_ h=>nF h λ_ h=>?_).elim;split at h
   .exact u' h λ_ h=>by cases h
   .cases h
  .refine(nF h λ_ h=>nF h λ_ h=>?_).elim;split at h
   .exact u' h λ_ h=>by cases h
   .cases h
  .cases h
 case buildSlice =>
  simp only[oC]at h;split at h
  .exact(nF h λ_ h=>u' h λ_ h=>by cases h).elim
  .cases h
 case makeSlice =>
  simp only[oC]at h;split at h
  .refine(nF h λ_ h=>nF h λ_ h=>nF h λ_ h=>?_).elim;split at h<;>cases h
  .cases h
 case fieldAddr =>
  simp only[oC]at h;split at h
  .split at h
   .split at h
    .exact(u' h λ_ h=>by cases h).elim
    .cases h
   .cases h
  .cases h
 case field =>
  simp only[oC]at h;split at h
  .split at h
   .split at h
    .exact(u' h λ_ h=>by cases h).elim
    .cases h
   .cases h
  .cases h
 case indexAddr =>
  simp only[oC]at h;split at h
  .split at h
   .exact(nF h λ_ h=>u' h λ_ h=>by cases h).elim
   .cases h
  .split at h
   .exact(nF h λ_ h=>u' h λ_ h=>by cases h).elim
   .cases h
  .cases h
 case index =>
  simp only[oC]at h;split at h
  .split at h
   .exact(nF h λ_ h=>u' h λ_ h=>by cases h).elim
   .cases h
  .exact(nF h λ_ h=>u' h λ_ h=>by cases h).elim
  .cases h
 all_goals cases h
theorem O7{d:Option Nat}{f:FuncId}{xs:List bL}{r:Nat}{ks vs args G H:List PV}(U:Cy P f ks vs args G H)(br:xs.map st.ev=.p (.fH r)::args.map .p)(bb:jQ G=true)(bk:jQ H=true)
  (k:b4 (st.put d (.p (.bP []))) (some (sL r G H))):pW P N ⟨d,.call f xs,none⟩ st (some (sL r ks vs)) b4:=by
 intro bt j o K Z w a Q Kt hN hj au E hA hK;obtain⟨h1,h2,h3,h4⟩:=DB au;obtain⟨X,h,bo,hf,hh,ag⟩:=La h1;have hg:o.guard=none:=by
  cases hg:o.guard with
  | none=>rfl
  | some jb =>
   obtain⟨j,b⟩:=jb;rw[hg]at h2;simp only[zO]at h2;split at h2<;>cases h2
 have hw:Region.wanted o (yielded bt a.tmps)=true:=by simp[Region.wanted,hg]
 have hd:d=o.dst:=h3;obtain⟨av,U⟩:=U;have hr:=BC ag E;rw[br]at hr;have af:=fD hh E;simp only[St.ev]at af;have aw:a.eval h=.func (.func f) #[] #[]:=by
  have hp:=af.cA;generalize a.eval h=F at hp ⊢;cases hp with
  | fn _ _ D h=>cases h;rfl
 have O:(execOp a.eval o).run P w=.ok (.enter f ((X.args.toList.map a.eval).toArray)) w:=by
  have:=Fj (P:=P) (w:=w) (args:=(X.args.toList.map a.eval).toArray) av;simp only[execOp,bo,resolve,hf,aw,Deferred.ofValue,mT,oI,qB,invoke];have e : #[]++X.args.map a.eval ++ #[]=(X.args.toList.map a.eval).toArray:=by simp[<- Array.toList_map]
  rw[e];exact this
 have al:PReps Z.M (.fH r::args) (X.args.toList.map a.eval):=aG.oT (by simpa using hr);generalize X.args.toList.map a.eval=D at al O;obtain⟨S,hX,es,n,q0,q1,q2,q3,q4,q5⟩:=hA;simp only[sL]at S hX q0
 let I:Nat->Option Obj:=λb=>if b=r then w.heap[r]? else Z.M b
 have x:∀ b o,Z.M b=some o->I b=some o:=λb o C=>by
  simp only[I];rw[aY];· exact C
  .rintro rfl;rw[S.m]at C;cases C
 have aq:∀ b o,I b=some o->w.heap[b]?=some o:=λb o C=>by
  simp only[I]at C;split at C
  .rename_i t;subst t;exact C
  .exact E.heap.mem b o C
 have V:PReps I (.mp r ks vs::args) D:=by
  cases al with
  | cons _ _ _ _ h0 h1 =>
   cases h0;exact .cons _ _ _ _ (.mp r ks vs es n (by simp only[I,cB];exact q0) (q1.mono x) (q2.mono x) q3 q4 q5) (h1.mono x)
 refine(show o.wp P a w Kt Q from ?_) |> λh=>by unfold wpOp;simp only[hj,hw,cB];exact .inl h
 unfold Oper.wp;rw[O,DV];refine(U w I r D aq V).mono ?_;rintro e w' ⟨W,rfl,p1,p2,p3,p4,p5⟩;obtain⟨l,i,t0,t1,t2,t3,t4,t5⟩:∃ l i,W r=some (.map l i)/\PReps W G (l.toList.map (·.key))/\PReps W H (l.toList.map (·.val))/\(l.toList.map (·.key)).Nodup/\(∀ e∈l.toList,e.born<i)/\(l.toList.map (·.born)).Nodup:=by
  cases p5 with
  | mp _ _ _ es n m0 m1 m2 m3 m4 m5=>exact⟨es,n,m0,m1,m2,m3,m4,m5⟩
 let z:Nat->Option Obj:=λb=>if b=r then none else W b
 have Y:∀ b o,z b=some o->b≠r/\W b=some o:=λb o h=>by
  simp only[z]at h;split at h
  .cases h
  .exact⟨by assumption,h⟩
 have u:∀ b R T fr,W b=some (.cells R T fr)->z b=some (.cells R T fr):=λb R T fr h=>by
  simp only[z];rw[aY];· exact h
  .rintro rfl;rw[t0]at h;cases h
 have L:∀ b o,z b=some o->Z.M b=some o\/w.heap.size<=b:=λb o h=>by
  obtain⟨g1,g2⟩:=Y b o h;obtain h|h|h:=p3 b o g2
  .exact absurd h g1
  .simp only[I]at h;rw[aY g1]at h;exact .inl h
  .exact .inr h
 have ap:bC K Z st w':=E.heap.world p4 λb t=>by subst t;exact⟨S.m,S.o,hX⟩
 have J:∀ b o,Z.M b=some o->z b=some o:=λb o t=>by
  have ad:b≠r:=by rintro rfl;rw[S.m]at t;cases t
  simp only[z];rw[aY ad];exact p1 b o ad (x b o t)
 have ao:bC K { Z with M:=z } st w':=by
  refine ap.grow (Keep.refl _ _) z J (λb o t=>p2 b o (Y b o t).2) (λb o t=>?_) (λs g o b C t=>?_)
  .obtain h|h:=L b o t
   .exact .inl h
   .exact .inr (.inr (dP E.heap.keep.size h))
  .cases hm:z b with
   | none=>rfl
   | some y =>
    obtain h|h:=L b y hm
    .rw[E.heap.sep s g o b C t]at h;cases h
    .have:=E.heap.lt C t;omega
 have hz:cO Z st { Z with M:=z } st:=.jY J;refine hK _ _ _ _ _ k (?_:aN K { Z with M:=z } (st.put d (.p (.bP []))) w' _) (nM.site ?_ λs=>pM st d _ s)
 .rw[hd];exact E.put rfl hz ao (.p _ _ (.bP [] [] .nil)) (by subst hN;exact h4) E.defers
 .refine⟨⟨by simp[z,sL],S.o,?_⟩,hX,l,i,p2 _ _ t0,t1.cL u bb,t2.cL u bk,t3,t4,t5⟩;exact iC S.lt p4.size
theorem MR.freeze{ac:AC}{t r:Nat}{ks vs:List PV}(I:st.get t=.p (.fH r))(k:MR P N ac (st.put (some t) (.p (.mp r ks vs))) none Post):MR P N ac st (some (sL r ks vs)) Post:=by
 intro code H K Z w a Q F hs E G;obtain⟨x,C,es,clock,D,J,L,O,R,S⟩:=E;simp only[sL]at x C D
 let h:Nat->Option Obj:=λb=>if b=r then w.heap[r]? else Z.M b
 have d:∀ b o,Z.M b=some o->h b=some o:=λb o l=>by
  simp only[h];rw[aY];· exact l
  .rintro rfl;rw[x.m]at l;cases l
 have y:bC K { Z with M:=h } st w:=by
  refine hs.heap.grow (Keep.refl _ _) h d (λb o f=>?_) (λb o f=>?_) (λs g o b l f=>?_)
  .simp only[h]at f;split at f
   .rename_i j;subst j;exact f
   .exact hs.heap.mem b o f
  .simp only[h]at f;split at f
   .rename_i j;subst j;exact .inr C
   .exact .inl f
  .simp only[h];rw[aY];· exact hs.heap.sep s g o b l f
   .rintro rfl;exact x.o s g o l f
 have hz:cO Z st { Z with M:=h } st:=.jY d;have z:aN K { Z with M:=h } (st.put (some t) (.p (.mp r ks vs))) w a:=by
  refine⟨λu=>?_,hs.defers,hs.size,y.gQ λi=>pM _ _ _ i⟩;rw[xb];split
  .rename_i hu;cases hu;have n:=hs.aR t;rw[I]at n;have n:=n.cA;generalize a.tmps.getD t Go.undef=X at n;cases n;exact .p _ _ (.mp r ks vs es clock (by simp only[h,cB];exact D) (J.mono d) (L.mono d) O R S)
  .exact aM.mono (sC (λi=>pM _ _ _ i) _) (aM.mono hz (hs.aR u))
 exact k code H K _ w a Q F z trivial G
theorem Sp.gG{f:FuncId}{args:List PV}{res:RV}{n np:Nat}{b:GC}{rs:List (Nat × Option Nat)}(d:aV P f=some ⟨n,np,b.er,rs⟩)(hn:args.length<=n)
  (h:MR P n b.er (vi args) none λex s _=>iG rs res ex s):Sp P f args res:=by
 unfold aV at d;split at d
 .rename_i fn E;split at d
  .rename_i k;split at d
   .rename_i c D;split at d
    .rename_i W p t u;simp only[cF,Bt.mk.injEq]at d;obtain⟨rfl,_,rfl,rfl⟩:=d;refine⟨⟨fn,E,by rw[D];rfl,k⟩,λw M vals I m=>?_⟩;refine calls_of_wp E D ?_;refine h _ t ⟨w,M,λ_=>False,fn.ntmps⟩ _ w _ _ rfl (J5 I m hn) trivial (λex st' A' Z' w' C hp hs _=>?_);have J:(ex=.ret\/ex=.normal)/\∃ vs,oE st' p=some vs/\pF st' (dB vs) res:=by
      have key:(ex=.ret\/ex=.normal)/\∃ vs,oE st' p=some vs/\kJ st' (dB vs) res:=by
       cases ex with
       | ret=>exact⟨.inl rfl,hp⟩
       | normal=>exact⟨.inr rfl,hp⟩
       | _=>exact hp.elim
      obtain⟨L,vs,V,j⟩:=key;refine⟨L,vs,V,?_⟩;unfold kJ at j;split at j
      .exact .pure _ _ j
      .split at j
       .rename_i sz es s' g off len m;obtain⟨o,t,rfl,u,rfl,H⟩:=j;rw[m];exact .fresh _ _ _ _ _ t u H
       .rename_i m;rw[m,j];exact .nil _
       .exact j.elim
      .exact j.elim
     obtain⟨y,vs,z,l⟩:=J
     have i:C.defers=[]/\∃ v,(results fn C.tmps).run P w'=.ok v w'/\∃ x M',Ending.returned v=.returned x/\(∀ b o,M b=some o->M' b=some o)/\(∀ b o,M' b=some o->w'.heap[b]?=some o) /\
       (∀ b o,M' b=some o->M b=some o\/w.heap.size<=b)/\Keep w w' (λ_=>False)/\sf M' w w' res x:=by
      obtain⟨xs,F,G⟩:=CY hs u z;obtain⟨M',O,Q,R,S,U⟩:=KD hs.heap G.dB l;refine⟨hs.defers,_,?_,_,M',rfl,O,Q,R,S,U⟩;unfold results;rw[DR];simp only[mT,map_eq_pure_bind,oI];exact congrArg (λr=>(Result.andThen r λa w'=>Result.ok a.toArray w').andThen λ(a:Array Value) w'=>Result.ok (if h:a.size=1 then a[0]else Value.tuple a) w') F
     obtain rfl|rfl:=y
     .exact i
     .exact i
    .cases d
   .cases d
  .cases d
 .cases d
end
section
variable {P:Program} {K:Ctx} {st st' st1:St} {N:Nat} {A B:Option FA} {Post:Exit->St->Option FA->Prop} {b4:St->Option FA->Prop}
def MR.dD{a b:GC}(h:vm P N (λex s=>(ex=.normal->MR P N b.er s A Post)/\(ex ≠ .normal->Post ex s A)) [.code a] st):MR P N (GC.seq a b).er st A Post :=
 .seq (.cS h)
def MR.cN{a b:GC}(h:MR P N a.er st A λex s B=>(ex=.normal->MR P N b.er s B Post)/\(ex ≠ .normal->Post ex s B)):MR P N (GC.seq a b).er st A Post:=.seq h
theorem MR.eR{a b:GC}{c:bL}{d:List Nat}{t:Bool}(i:st.ev c=.p (.bool t))(f:t=true->MR P N a.er (st.drop d) A Post)(h:t=false->MR P N b.er (st.drop d) A Post):MR P N (GC.cond c d a b).er st A Post:=by
 refine .cond i ?_;cases t with
 | true=>exact .eg (Hl _ _) (f rfl)
 | false=>exact .eg (Hl _ _) (h rfl)
def MR.ya{ops:List Ins}{pre dead:List (List Nat)}{i:Ins}(d:ops.getLast?=some i)(hl:LP pre ops.dropLast.length=true)
  (h:vm P N (λex s=>ex=.normal->pW P N i s A λs B=>Post .normal s B) [.fJ ops.dropLast [] pre dead] st):MR P N (GC.fM ops pre dead).er st A Post:=by
 obtain⟨gs,s1,m,f,j,k,l⟩:=lG _ (dK _) h;have e:ops=ops.dropLast++[i]:=by
  have b:ops≠[]:=by rintro rfl;simp at d
  rw[List.getLast?_eq_getLast b]at d;rw[<- Option.some.inj d];exact(List.dropLast_concat_getLast b).symm
 show MR P N (.fM ops pre) st A Post;rw[e];exact .FW f (by simpa using j) hl (.eg k (l rfl))
def MR.oo{ops:List Ins}{dead:List (List Nat)}(h:eD P N ops st A λs B=>Post .normal s B):MR P N (GC.cY ops dead).er st A Post:=.cY h
def AR(n:Nat)(b:List (List Nat)){ops:List Ins}(h:Go.Ab.vm P N (λex s=>ex=.normal->eD P N (ops.drop n) s A b4) [.ins (ops.take n) b] st):eD P N ops st A b4:=by
 have:=eD.vm h
 rwa[oJ]at this
def eD.nil(h:b4 st A):eD P N [] st A b4:=⟨st,aA.refl _,h⟩
def eD.cons{i:Ins}{is:List Ins}(h:pW P N i st A λs B=>eD P N is s B b4):eD P N (i::is) st A b4:=h
def MR.kM{b:GC}{id:Nat}(h:MR P N b.er st A λex s B=>Post (Ng id ex) s B):MR P N (GC.bU id b).er st A Post:=.bU h
def MR.nK{b:GC}{I:Nat->St->Option FA->Prop}(n:Nat)(d:I n st A)(step:∀ n st A,I n st A->MR P N b.er st A λex s B=>(ex=.normal->∃ m,m<n/\I m s B)/\(ex ≠ .normal->Post ex s B)):MR P N (GC.loop b).er st A Post:=.loop n d step
def MR.uP{id:Nat}(h:Post (.exit id) st A):MR P N (GC.ext id).er st A Post:=.ext h
def MR.pk(h:Post .normal st A):MR P N GC.iX.er st A Post:=.iX h
attribute [simp] jQ PV.cL
end
section
variable {κ α : Type} [Enc κ] [Enc α] [DecidableEq κ]
def kL(e : κ):List (κ × α)->Option α
 | []=>none
 | (b,c)::L=>if b=e then some c else kL e L
def lE(e : κ)(c : α):List (κ × α)->List (κ × α)
 | []=>[(e,c)]
 | (b,d)::L=>if b=e then(b,c)::L else(b,d)::lE e c L
def n4(L:List (κ × α)):List PV:=L.map λp=>enc p.1
def o5(L:List (κ × α)):List PV:=L.map λp=>enc p.2
theorem QP{kc : κ -> List PV}(f:∀ e,enc e=.agg (kc e))(b:∀ e d,tE (kc e) (kc d)=true ↔ e=d)(e : κ):∀ L:List (κ × α),oD (kc e) (n4 L) (o5 L)=(kL e L).map enc
 | []=>rfl
 | (d,c)::L=>by
  simp only[n4,o5,jH,f,oD,b,kL];split
  .rfl
  .have:=QP f b e L;simp only[n4,o5,f]at this;exact this
theorem Ql{kc : κ -> List PV}(d:∀ e,enc e=.agg (kc e))(b:∀ e f,tE (kc e) (kc f)=true ↔ e=f)(e : κ)(c : α):∀ L:List (κ × α),mL (kc e) (enc c) (n4 L) (o5 L)=(n4 (lE e c L),o5 (lE e c L))
 | []=>by simp[n4,o5,mL,lE,d]
 | (f,i)::L=>by
  have h:=Ql d b e c L;simp only[n4,o5,d]at h;simp only[n4,o5,jH,d,mL,b,lE];split
  .rfl
  .simp only[h,jH]
theorem KS(e : κ)(c : α)(b : κ):∀ L:List (κ × α),kL b (lE e c L)=if e=b then some c else kL b L
 | []=>rfl
 | (f,j)::L=>by
  have i:=KS e c b L;by_cases h:f=e
  .subst h;simp only[lE,cB,kL];by_cases d:f=b
   .simp[d]
   .simp[d]
  .simp only[lE,aY h,kL,i];by_cases d:f=b
   .subst d;simp[v8 h]
   .simp[d]
theorem O8(e : κ)(c : α):∀ L:List (κ × α),(lE e c L).map (·.1)=if e∈L.map (·.1)then L.map (·.1)else L.map (·.1)++[e]
 | []=>rfl
 | (f,d)::L=>by
  have b:=O8 e c L;simp only[lE];split
  .rename_i h;subst h;simp
  .rename_i h;simp only[jH,b,bY,v8 h,false_or];split<;>rfl
theorem Nt{e : κ}{c : α}:∀ {L:List (κ × α)},kL e L=some c->(e,c)∈L
 | (f,d)::L,h=>by
  simp only[kL]at h;split at h
  .rename_i b;subst b;cases h;simp
  .exact tV _ (Nt h)
def XC(e : κ)(c : α){L:List (κ × α)}(h:(L.map (·.1)).Nodup):((lE e c L).map (·.1)).Nodup:=by
 rw[O8];split
 .exact h
 .rename_i i;exact FF.2 ⟨h,by simp,λa f b d=>by simp at d;subst d;rintro rfl;exact i f⟩
end
def Gi(P:Program)(f:FuncId)(vals:List Value)(i:RV):Prop :=
 (∃ h,P.funcs[f]?=some h/\h.body.isSome=true/\h.name ≠ "runtime.NumGoroutine") /\
 ∀ (w:World) (M:Nat->Option Obj),(∀ b o,M b=some o->w.heap[b]?=some o) ->
  Calls P f vals.toArray w λe w'=>∃ x d,e=.returned x/\(∀ b o,M b=some o->d b=some o)/\(∀ b o,d b=some o->w'.heap[b]?=some o) /\
   (∀ b o,d b=some o->M b=some o\/w.heap.size<=b)/\Keep w w' (λ_=>False)/\sf d w w' i x
section
variable {P:Program} {K:Ctx} {Z Z':Cz} {st st' st1:St} {w w':World} {a:Act} {N:Nat} {A B:Option FA} {Post:Exit->St->Option FA->Prop} {b4:St->Option FA->Prop} {v:AV}
theorem z54{d:Option Nat}{f:FuncId}{xs:List bL}{vals:List Value}{l:RV}(i:Gi P f vals l)(hv:∀ (Z:Cz) (S:List Value),aG Z st (xs.map st.ev) S->S=vals)(r:yr ⟨f,[],l,none⟩ st (d.getD 0) []=some (v,st1))(J:st1.sl=st.sl)
  (k:b4 (st1.put d v) none):pW P N ⟨d,.call f xs,none⟩ st none b4:=by
 intro O j o K Z w a Q Kt Y hj C m hA X;obtain⟨U,y,V,W⟩:=DB C;obtain⟨u,h,I,hf,hh,p⟩:=La U;have G:o.guard=none:=by
  cases G:o.guard with
  | none=>rfl
  | some jb =>
   obtain⟨j,b⟩:=jb;rw[G]at y;simp only[zO]at y;split at y<;>cases y
 have hw:Region.wanted o (yielded O a.tmps)=true:=by simp[Region.wanted,G]
 have hd:d=o.dst:=V;obtain⟨D,i⟩:=i;have hr:=BC p m;have n:=fD hh m;simp only[St.ev]at n;have E:a.eval h=.func (.func f) #[] #[]:=by
  have R:=n.cA;generalize a.eval h=F at R ⊢;cases R with
  | fn _ _ vals h=>cases h;rfl
 have L:u.args.toList.map a.eval=vals:=hv Z _ (by simpa using hr);have t:(execOp a.eval o).run P w=.ok (.enter f vals.toArray) w:=by
  have:=Fj (P:=P) (w:=w) (args:=(u.args.toList.map a.eval).toArray) D;simp only[execOp,I,resolve,hf,E,Deferred.ofValue,mT,oI,qB,invoke];have e : #[]++u.args.map a.eval ++ #[]=(u.args.toList.map a.eval).toArray:=by simp[<- Array.toList_map]
  rw[e,this,L]
 refine(show o.wp P a w Kt Q from ?_) |> λh=>by unfold wpOp;simp only[hj,hw,cB];exact .inl h
 unfold Oper.wp;rw[t,DV];have H:∀ b o,Mx Z st w [] b=some o->Z.M b=some o:=λb o z=>by
  obtain h|⟨_,_,s,g,ob,h,_⟩:=rJ z
  .exact h
  .cases h
 refine(i w (Mx Z st w []) (λb o z=>m.heap.mem b o (H b o z))).mono ?_;rintro e w' ⟨x,M',rfl,p1,p2,p3,p4,p5⟩;obtain⟨Z',q1,q2,q3⟩:=Ou (c:=⟨f,[],l,none⟩) (vs:=[]) m.heap p1 p2 p3 p4 p5 r;refine X _ _ Z' _ _ k ?_ trivial;rw[hd];exact m.put J q3 q1 q2 (by subst Y;exact W) m.defers
theorem aA.Ci{t s sz:Nat}{es:List AV}(hp:s<fP):aA ⟨[(t,.own s 0 0 0)],[(s,[some ⟨sz,es⟩])]⟩ ⟨[(t,.own s 0 0 0)],[(s,[some ⟨sz,[]⟩])]⟩:=by
 intro K Z w a hs;have d:∀ (es:List AV) s' g' o',(⟨[(t,.own s 0 0 0)],[(s,[some ⟨sz,es⟩])]⟩:St).obj s' g'=some o'->s'=s/\g'=0/\o'=⟨sz,es⟩:=by
  intro es s' g' o' h;simp only[St.obj,St.site,look]at h;split at h
  .rename_i n;cases g' with
   | zero=>simp at h;exact⟨n.symm,rfl,h.symm⟩
   | succ g=>simp at h
  .simp at h
 have f:∀ es:List AV,(⟨[(t,.own s 0 0 0)],[(s,[some ⟨sz,es⟩])]⟩:St).obj s 0=some ⟨sz,es⟩:=λes=>by simp[St.obj,St.site,look]
 have r:=hs.heap.bR s 0 _ (f es);refine⟨Z,⟨λu=>?_,hs.defers,hs.size,⟨λs' g' o' h=>?_,λs1 E L F o1 J b k p _ _=>?_,hs.heap.mem,λs' g' o' b h i=>?_,λs' g' o' b h i=>?_,hs.heap.m0,hs.heap.eE,hs.heap.keep⟩⟩,⟨λu a _=>?_,λu g a _ l _=>?_,λu g o a _ m=>?_⟩⟩
 case refine_6=>simp only[St.site,look];split<;>simp
 case refine_7 =>
  simp only[St.site,look]at l;split at l
  .omega
  .simp at l
 case refine_8=>have:=(d _ _ _ _ m).1;omega
 .have hu:=hs.aR u;simp only[St.get,look]at hu ⊢;split at hu
  .rename_i j;simp only[j,cB];generalize a.tmps.getD u Go.undef=x at hu;cases hu with
   | dU _ _ o m i=>exact .dU _ _ _ (f []) i
   | own _ _ _ _ o b ad c m i k p h3 y=>exact .own _ _ _ _ _ b ad c (f []) i k (λh=>absurd h (by omega)) (by simp) y
   | eN _ _ _ _ _ _ _ hd=>rw[f]at hd;cases hd
  .rename_i j;simp only[j,fQ];exact .undef _
 .obtain⟨rfl,rfl,rfl⟩:=d _ _ _ _ h;refine⟨r.pos,by simp,by simp,λ_=>rfl,λb i=>?_⟩;obtain⟨cur,T,vals,z,G,H,C,I,D⟩:=r.bU b i;exact⟨cur,T,[],z,.nil,by simp,C,by simp,D⟩
 .obtain⟨rfl,rfl,_⟩:=d _ _ _ _ k;obtain⟨rfl,rfl,_⟩:=d _ _ _ _ p;exact⟨rfl,rfl⟩
 .obtain⟨rfl,rfl,rfl⟩:=d _ _ _ _ h;exact hs.heap.sep _ _ _ b (f es) i
 .obtain⟨rfl,rfl,rfl⟩:=d _ _ _ _ h;exact hs.heap.own _ _ _ b (f es) i
theorem Gi.cS{f:FuncId}{vals:List Value}{res:RV}{n np:Nat}{b:GC}{rs:List (Nat × Option Nat)}(d:aV P f=some ⟨n,np,b.er,rs⟩)(hn:vals.length<=n)
  (F:st.hp=[]) (y:∀ (M:Nat->Option Obj) (t:Nat),aM ⟨M,λ_ _=>none,λ_ _=>0⟩ st (st.get t) ((vals.toArray++Array.replicate (n - vals.toArray.size) Go.undef).getD t Go.undef))
  (h:vm P n (λex s=>∃ s',aA s s'/\iG rs res ex s') [.code b] st):Gi P f vals res:=by
 have l:∀ s g,st.obj s g=none:=λs g=>by simp[St.obj,St.site,F,look]
 obtain⟨ex,s,k,s',V,j⟩:=lG _ (dK _) h;have k:=k.sR V;have U:(ex=.ret\/ex=.normal)/\∃ vs,oE s' rs=some vs/\pF s' (dB vs) res:=by
  have key:(ex=.ret\/ex=.normal)/\∃ vs,oE s' rs=some vs/\kJ s' (dB vs) res:=by
   cases ex with
   | ret=>exact⟨.inl rfl,j⟩
   | normal=>exact⟨.inr rfl,j⟩
   | _=>exact j.elim
  obtain⟨W,vs,r3,p⟩:=key;refine⟨W,vs,r3,?_⟩;unfold kJ at p;split at p
  .exact .pure _ _ p
  .split at p
   .rename_i sz es s' g off len G;obtain⟨o,C,rfl,D,rfl,R⟩:=p;rw[G];exact .fresh _ _ _ _ _ C D R
   .rename_i G;rw[G,p];exact .nil _
   .exact p.elim
  .exact p.elim
 obtain⟨E,vs,H,z⟩:=U;unfold aV at d;split at d
 .rename_i fn L;split at d
  .rename_i u;split at d
   .rename_i c J;split at d
    .rename_i bd ad C D;simp only[cF,Bt.mk.injEq]at d;obtain⟨rfl,_,rfl,rfl⟩:=d;refine⟨⟨fn,L,by rw[J];rfl,u⟩,λw M S=>?_⟩;refine calls_of_wp L J ?_;refine k _ C ⟨w,M,λ_=>False,fn.ntmps⟩ ⟨M,λ_ _=>none,λ_ _=>0⟩ w _ _ rfl ⟨y M,rfl,by simp;omega,⟨λs g o i=>(by rw[l]at i;cases i),λs g _ _ o _ b i=>(by rw[l]at i;cases i),S,λs g o b i=>(by rw[l]at i;cases i),λs g o b i=>(by rw[l]at i;cases i),λ_ _ h=>h,λ_ _ h=>.inl h,Keep.refl w _⟩⟩ (λZ' w' I hs _=>?_)
     have m:I.defers=[]/\∃ v,(results fn I.tmps).run P w'=.ok v w'/\∃ x M',Ending.returned v=.returned x/\(∀ b o,M b=some o->M' b=some o)/\(∀ b o,M' b=some o->w'.heap[b]?=some o) /\
       (∀ b o,M' b=some o->M b=some o\/w.heap.size<=b)/\Keep w w' (λ_=>False)/\sf M' w w' res x:=by
      obtain⟨xs,O,Q⟩:=CY hs D H;obtain⟨M',X,Y,m3,m4,m5⟩:=KD hs.heap Q.dB z;refine⟨hs.defers,_,?_,_,M',rfl,X,Y,m3,m4,m5⟩;unfold results;rw[DR];simp only[mT,map_eq_pure_bind,oI];exact congrArg (λr=>(Result.andThen r λa w'=>Result.ok a.toArray w').andThen λ(a:Array Value) w'=>Result.ok (if h:a.size=1 then a[0]else Value.tuple a) w') O
     obtain rfl|rfl:=E
     .exact m
     .exact m
    .cases d
   .cases d
  .cases d
 .cases d
end
section
variable {P:Program} {K:Ctx} {Z Z':Cz} {st st':St} {w w':World} {a:Act}
def bC.xZ(h:bC K Z st w){s g:Nat}{o:bD}(k:st.obj s g=some o){es:List AV}(hl:es.length=o.es.length)(F:∀ e∈es,e.sz=o.sz)(h3:∀ c∈es.flatMap AV.cells,c.one=true)
  (G:∀ b,Z.B s g=some b->∃ (cur:Array Value) (T:TypeId) (vals:List Value),w.heap[b]?=some (.cells cur T (0,0))/\aG Z st (es.flatMap AV.cells) vals /\
   (∀ (i:Nat) (v:Value),vals[i]?=some v->cur[i]?=some v)/\cur.size=Z.cap s g*o.sz/\o.es.length<=Z.cap s g/\Z.cap s g<=maxLen):bC K Z (st.setObj s g ⟨o.sz,es⟩) w:=by
 have n:=nO k;have hz:=cO.setObj Z st s g o ⟨o.sz,es⟩ k rfl hl;have old:∀ {s' g':Nat} {o':bD},(st.setObj s g ⟨o.sz,es⟩).obj s' g'=some o'->∃ L,st.obj s' g'=some L:=by
  intro s' g' o' d;rw[vp _ _ _ _ _ _ n]at d;split at d
  .rename_i m;obtain⟨rfl,rfl⟩:=m;exact⟨o,k⟩
  .exact⟨o',d⟩
 refine⟨λs' g' o' d=>?_,λs' g' M E o' J b a1 p f r=>?_,h.mem,λs' g' o' b a1 f=>?_,λs' g' o' b a1 f=>?_,h.m0,h.eE,h.keep⟩
 .rw[vp _ _ _ _ _ _ n]at d;split at d
  .rename_i m;obtain⟨rfl,rfl⟩:=m;cases d;obtain⟨H,O,Q,I,R⟩:=h.bR s' g' o k;refine⟨H,F,h3,λl=>List.eq_nil_of_length_eq_zero (by rw[hl,I l];rfl),λb l=>?_⟩;obtain⟨cur,T,vals,u,x,y,z,C,D⟩:=G b l;exact⟨cur,T,vals,u,aG.mono hz x,y,z,by simpa[hl]using C,D⟩
  .exact(h.bR s' g' o' d).later hz rfl rfl (λ_ _=>rfl)
 .obtain⟨o1,j⟩:=old a1;obtain⟨S,t⟩:=old p;exact h.inj _ _ _ _ _ _ b j t f r
 .obtain⟨o1,j⟩:=old a1;exact h.sep _ _ _ b j f
 .obtain⟨o1,j⟩:=old a1;exact h.own _ _ _ b j f
theorem Q1:∀ (ids:List (Nat × Nat)) {st:St} {s g:Nat} {o:bD},st.obj s g=some o->(s,g)∉ids->(aJ st ids).obj s g=some o
 | [],_,_,_,_,h,_=>h
 | (f,d)::r,st,s,g,o,h,b=>by simp only[bY,dA,not_or]at b;rw[HG];refine Q1 r ?_ b.2;rw[AS,aY b.1];exact h
end
section
variable {P:Program} {K:Ctx} {Z Z':Cz} {st st':St} {w w':World} {a:Act}
def xF:List AV->List AV->Prop
 | [],[]=>True
 | x::l,y::r=>(x=y\/(x=.p .any/\y.one=true))/\xF l r
 | _,_=>False
theorem xF.FV:∀ {l r:List AV} {vals:List Value},xF l r->aG Z st r vals->aG Z st l vals
 | [],[],_,_,h=>h
 | [],_::_,_,h,_=>h.elim
 | _::_,[],_,h,_=>h.elim
 | x::l,y::r,_,h,.cons _ v _ vs b d=>by
  refine .cons _ _ _ _ ?_ (xF.FV h.2 d);obtain rfl|⟨rfl,f⟩:=h.1
  .exact b
  .exact .p _ _ (.any _ (aM.gu b f))
theorem xF.one:∀ {l r:List AV},xF l r->(∀ c∈r,c.one=true)->∀ c∈l,c.one=true
 | [],[],_,_,c,b=>by cases b
 | [],_::_,h,_,_,_=>h.elim
 | _::_,[],h,_,_,_=>h.elim
 | x::l,y::r,h,d,c,b=>by
  obtain rfl|b:=bY.1 b
  .obtain rfl|⟨rfl,_⟩:=h.1
   .exact d _ List.mem_cons_self
   .rfl
  .exact xF.one h.2 (λc b=>d c (tV _ b)) c b
theorem aA.pB{s g:Nat}{o:bD}(es:List AV)(d:st.obj s g=some o)(hl:es.length=o.es.length)(r:∀ e∈es,e.sz=o.sz)(i:xF (es.flatMap AV.cells) (o.es.flatMap AV.cells)):aA st (st.setObj s g ⟨o.sz,es⟩):=by
 intro K Z w a hs;have h:=hs.heap.bR s g o d;have hz:=cO.setObj Z st s g o ⟨o.sz,es⟩ d rfl hl;have f:=hs.heap.xZ d hl r (i.one h.one) (λb t=>by
  obtain⟨cur,T,vals,j,k,l,m,n,p⟩:=h.bU b t;exact⟨cur,T,vals,j,i.FV k,l,m,n,p⟩)
 refine⟨Z,⟨λu=>?_,hs.defers,hs.size,f⟩,.dR hz⟩;rw[show(st.setObj s g ⟨o.sz,es⟩).get u=st.get u from rfl];exact aM.mono hz (hs.aR u)
end
def Nh(rs:List (Nat × Option Nat))(b:RV)(ex:Exit)(s:St):Prop:=∃ d,aA s d/\iG rs b ex d
def Sp.uN{P:Program}{f:FuncId}{args:List PV}{res:RV}{n np:Nat}{b:GC}{rs:List (Nat × Option Nat)}(p:aV P f=some ⟨n,np,b.er,rs⟩)(hn:args.length<=n)(h:vm P n (Nh rs res) [.code b] (vi args)):Sp P f args res:=by
 obtain⟨ex,y,u,s,r,j⟩:=lG _ (dK _) h;have key:(ex=.ret\/ex=.normal)/\∃ vs,oE s rs=some vs/\kJ s (dB vs) res:=by
  cases ex with
  | ret=>exact⟨.inl rfl,j⟩
  | normal=>exact⟨.inr rfl,j⟩
  | _=>exact j.elim
 obtain⟨t,vs,x,d⟩:=key;refine Sp.gA p hn (cT.sR u r) t x ?_;unfold kJ at d;split at d
 .exact .pure _ _ d
 .split at d
  .rename_i sz es s' g off len i;obtain⟨o,k,rfl,l,rfl,m⟩:=d;rw[i];exact .fresh _ _ _ _ _ k l m
  .rename_i i;rw[i,d];exact .nil _
  .exact d.elim
 .exact d.elim
end Go.Ab
namespace Go.Ab
open Enc (enc)
attribute [local simp] fX bL.aR
def wD:PV:=.agg [.fn 193 [],.fn 195 [],.fn 196 [],.fn 198 [],.fn 200 [],.fn 202 [],.fn 203 [],.fn 204 [],.fn 206 []]
def Af:PV:=.agg [.fn 234 [],.fn 236 [],.fn 237 [],.fn 239 [],.fn 241 [],.fn 243 [],.fn 203 [],.fn 245 [],.fn 248 []]
def Cs(x:PV):PV:=.agg [.fn 218 [],.fn 195 [],.fn 196 [],.fn 222 [x],.fn 200 [],.fn 278 [.ref (.fn 196 [])],.fn 221 [],.fn 204 [],.fn 223 [x]]
def Cw(x:PV):PV:=.agg [.fn 207 [],.fn 208 [],.fn 209 [],.fn 210 [],.fn 212 [],.fn 278 [.ref (.fn 209 [])],.fn 211 [],.fn 213 [],.fn 216 [x]]
def bO(x:PV):PV:=.agg [.fn 224 [],.fn 225 [],.fn 226 [],.fn 227 [],.fn 228 [],.fn 278 [.ref (.fn 226 [])],.fn 203 [],.fn 229 [],.fn 232 [x]]
def tB:PV:=.agg [.fn 218 [],.fn 195 [],.fn 196 [],.any,.fn 200 [],.fn 278 [.ref (.fn 196 [])],.fn 221 [],.fn 204 [],.any]
def An:PV:=.agg [.fn 207 [],.fn 208 [],.fn 209 [],.fn 210 [],.fn 212 [],.fn 278 [.ref (.fn 209 [])],.fn 211 [],.fn 213 [],.any]
def z':PV:=.agg [.fn 224 [],.fn 225 [],.fn 226 [],.fn 227 [],.fn 228 [],.fn 278 [.ref (.fn 226 [])],.fn 203 [],.fn 229 [],.any]
def Al:PV:=Cs (.ref tB)
def Ao:PV:=Cw (.ref An)
def Aa:PV:=bO (.ref z')
def LD:zS 163 [] wD:=by refine Sp.vz c.fv λ_=>?_;simp[g.fv,wD]
def U1:zS 167 [] Af:=by refine Sp.vz c.na λ_=>?_;simp[g.na,Af]
def JL(f:FuncId):zS 215 [.fn f []] (.fn 278 [.ref (.fn f [])]):=by refine Sp.vz c.gf λ_=>?_;simp[g.gf,bE]
def Uq:zS 165 [] Al:=by
 refine Sp.uN c.m8 (by simp) ?_;simp[g.m8];refine bF LD rfl ?_;simp[wD];refine bF (JL 196) rfl ?_;simp;refine⟨_,aA.pB (s:=1) (g:=0) [.p tB] rfl rfl (by simp[tB]) ?_,?_⟩
 .simp[tB,xF,AV.cells]<;>decide
 simp[bE,iG,kJ,oE,AI,dB,Al,Cs,St.setObj]
def ybo:zS 164 [] Ao:=by
 refine Sp.uN c.mz (by simp) ?_;simp[g.mz];refine bF (JL 209) rfl ?_;simp;refine⟨_,aA.pB (s:=1) (g:=0) [.p An] rfl rfl (by simp[An]) ?_,?_⟩
 .simp[An,xF,AV.cells]<;>decide
 simp[bE,iG,kJ,oE,AI,dB,Ao,Cw,St.setObj]
def ydw:zS 166 [] Aa:=by
 refine Sp.uN c.m9 (by simp) ?_;simp[g.m9];refine bF (JL 226) rfl ?_;simp;refine⟨_,aA.pB (s:=1) (g:=0) [.p z'] rfl rfl (by simp[z']) ?_,?_⟩
 .simp[z',xF,AV.cells]<;>decide
 simp[bE,iG,kJ,oE,AI,dB,Aa,bO,St.setObj]
def xA(k:Int):PV:=if k=1 then wD else if k=2 then Ao else if k=3 then Al else if k=4 then Aa else Af
def CU(k:Int)(b:1<=k/\k<=5):zS 123 [.int .i64 k] (xA k):=by
 have:k=1\/k=2\/k=3\/k=4\/k=5:=by omega
 obtain rfl|rfl|rfl|rfl|rfl:=this
 .refine Sp.vz c.an λ_=>?_;simp[g.an];refine bF LD rfl ?_;simp[xA,wD]
 .refine Sp.vz c.an λ_=>?_;simp[g.an];refine bF ybo rfl ?_;simp[xA,Ao,Cw]
 .refine Sp.vz c.an λ_=>?_;simp[g.an];refine bF Uq rfl ?_;simp[xA,Al,Cs]
 .refine Sp.vz c.an λ_=>?_;simp[g.an];refine bF ydw rfl ?_;simp[xA,Aa,bO]
 .refine Sp.vz c.an λ_=>?_;simp[g.an];refine bF U1 rfl ?_;simp[xA,Af]
def O1(k:Int):zS 139 [.int .i64 k] (.bool (decide (1<=k/\k<=5))):=by refine Sp.vz c.je λ_=>?_;simp[g.je];refine⟨λh=>by simp[h],λh=>by simp[show ¬ 1<=k by omega]⟩
def XU(k:Int):zS 141 [.int .i64 k] (.bool (!decide (1<=k/\k<=5))):=by refine Sp.vz c.jf λ_=>?_;simp[g.jf];refine bF (O1 k) rfl ?_;simp
def BS(r:aB):zS 98 [enc r] (.bool r.ok):=by
 refine Sp.vz c.cg λj=>?_;simp[g.cg];refine⟨λb=>⟨λf=>⟨λi=>?_,λi=>?_⟩,λf=>?_⟩,λb=>?_⟩
 .refine bF (Zo r.parts 141 [] (λk=>!decide (1<=k/\k<=5)) (by omega) λk _=>XU k) rfl ?_;have:r.ok = !(r.parts.any λk=>!decide (1<=k/\k<=5)):=by
   rw[Bool.eq_iff_iff];simp only[aB.ok,aW b,decide_eq_true_eq,Mi,List.any_eq_false];constructor
   .intro h x l;have:=h.2.2 x l;simp[this]
   .intro h;exact⟨by omega,by omega,λk d=>by have:=h k d;simpa using this⟩
  simp[this]
 .simp[aB.ok,b];intro h;omega
 .simp[aB.ok,b];intro h;omega
 .refine bF (O1 r.kind) rfl ?_;by_cases d:1<=r.kind/\r.kind<=5
  .simp[d,aB.ok,b]
  .have:r.ok=false:=by simp only[aB.ok,aY b,decide_eq_false_iff_not];omega
   simp[d,this]
def Ek(w:GW)(q:aS)(c:Int)(i:Bool)(s:UInt64)(p:List aF)(ps:List GW):w=.mk q c i s p ps ↔ w.q=q/\w.cost=c/\w.inf=i/\w.set=s/\w.aP=p/\w.parts=ps:=by cases w;simp[GW.q,GW.cost,GW.inf,GW.set,GW.aP,GW.parts]
def NM(w:GW)(i:w.sm 1048576):zS 193 [enc w] (.bool (decide (w.si 1))):=by
 refine Sp.vz c.fw λ_=>?_;simp[g.fw];refine bF (K4 w.q (i.q.mono (by omega))) rfl ?_;obtain f|f:=ju w.q.valid
 .simp[f];refine bA (BP w i (.mk w.q 0 false 0 [] [])) ?_;simp;rw[wB,Ek];simp[f];exact⟨λ⟨a,b,c,d,e⟩=>⟨e,b,a,c,d⟩,λ⟨e,b,a,c,d⟩=>⟨a,b,c,d,e⟩⟩
 .have:¬ w.si 1:=λh=>by have:=(wB.1 h).2.2.2.2.2;rw[f]at this;cases this
  simp[f,this]
def VE(w:GW)(i:w.sm 1048576):zS 234 [enc w] (.bool (decide (w.si 5))):=by
 refine Sp.vz c.gi λ_=>?_;simp[g.gi];refine bF (OU w.aP i.aP (by have:=i.len;omega)) rfl ?_;by_cases f:bM w.aP
 .simp[f];refine bA (BP w i (.mk dI 0 false 0 w.aP [])) ?_;simp;rw[xV,Ek];simp[f];exact⟨λ⟨a,b,c,d,e⟩=>⟨e,a,c,b,d⟩,λ⟨e,a,c,b,d⟩=>⟨a,b,c,d,e⟩⟩
 .have:¬ w.si 5:=λh=>f (xV.1 h).2.2.2.2.2;simp[f,this]
def Vu(w:GW)(f:w.sm 1048576):zS 224 [enc w] (.bool (decide (w.si 4))):=by refine Sp.vz c.dq λ_=>?_;simp[g.dq];refine bA (BP w f (.mk dI 0 false w.set [] [])) ?_;simp;rw[yU,Ek];simp;exact⟨λ⟨a,b,c,d,e⟩=>⟨e,a,c,b,d⟩,λ⟨e,a,c,b,d⟩=>⟨a,b,c,d,e⟩⟩
def ybs(w:GW)(l:w.sm 1048576):zS 207 [enc w] (.bool (decide (w.si 2))):=by
 refine Sp.vz c.de λ_=>?_;simp[g.de];have j:¬ (0<=w.cost/\w.cost<=1099511627776/\(w.inf=true->w.cost=0))->¬ w.si 2:=λh f=>h (oV.1 f).2.2.2.2;refine⟨λk=>⟨λf=>?_,λf=>?_⟩,λk=>?_⟩
 .obtain hi|hi:=ju w.inf
  .simp[hi];refine⟨λi=>?_,λi=>j (λh=>i (h.2.2 hi))⟩;refine bF (BP w l (.mk dI w.cost true 0 [] [])) (by simp[hi]) ?_;simp;rw[oV,Ek];simp[hi,i];exact⟨λ⟨a,b,c,d⟩=>⟨d,a,b,c⟩,λ⟨d,a,b,c⟩=>⟨a,b,c,d⟩⟩
  .simp[hi];refine bF (BP w l (.mk dI w.cost false 0 [] [])) (by simp[hi]) ?_;simp;rw[oV,Ek];simp[hi,k,f];exact⟨λ⟨a,b,c,d⟩=>⟨d,a,b,c⟩,λ⟨d,a,b,c⟩=>⟨a,b,c,d⟩⟩
 .exact j (by omega)
 .exact j (by omega)
def yd0:zS 267 [.int .i64 1,.int .i64 1] (.bP [enc (cH 1),.int .i64 0]):=by have h:=Vj 1 1 (by omega) (by omega);have b:Rat.divInt 1 1=1:=rfl;simp[b]at h;exact h
def XF:zS 197 [.int .i64 1] (enc (.mk (cH 1) 0 false 0 [] []:GW)):=by refine Sp.vz c.nj λ_=>?_;simp[g.nj];refine bF yd0 rfl ?_;simp
def YA{x y:Rat}:x<y ↔ (x - y).num<0:=by
 rw[Rat.lt_iff_sub_pos];have:(x - y) = -(y - x):=by rw[Rat.neg_sub]
 rw[this,Rat.neg_num];have b:0<=y - x ↔ 0<=(y - x).num:=Rat.num_nonneg.symm;have d:(y - x)=0 ↔ (y - x).num=0:=Rat.num_eq_zero.symm;rw[Rat.lt_iff_le_and_ne,b,ne_comm,Ne,d];omega
def yaj(x y:Rat):(x - y).num = -(y - x).num:=by
 have:(x - y) = -(y - x):=by rw[Rat.neg_sub]
 rw[this,Rat.neg_num]
def R0{x y:Rat}:0<kH (x - y) ↔ y<x:=by rw[YA];have:=yaj x y;unfold kH;(repeat' split)<;>omega
def Y2{x y:Rat}:kH (x - y)<=0 ↔ x<=y:=by rw[<- Rat.not_lt,<- R0];omega
def yba(w:GW)(j:w.sm 1048576):zS 218 [enc w] (.bool (decide (w.si 3))):=by
 refine Sp.vz c.dj λ_=>?_;simp[g.dj];refine bF LD rfl ?_;simp[wD];refine bA (NM w j) ?_;have k:w.si 3 ↔ w.si 1/\0<=w.q.v/\w.q.v<=1:=by rw[vG,wB];exact⟨λ⟨a,b,c,d,e,f,g,h⟩=>⟨⟨a,b,c,d,e,f⟩,g,h⟩,λ⟨⟨a,b,c,d,e,f⟩,g,h⟩=>⟨a,b,c,d,e,f,g,h⟩⟩
 by_cases i:w.si 1
 .simp[i];refine bF (GR w.q (j.q.mono (by omega))) rfl ?_;simp;refine⟨λl=>?_,λl=>?_⟩
  .refine bF XF rfl ?_;simp;refine bF (QC w.q (cH 1) j.q (EC.mono (by omega))) rfl ?_;simp;rw[iN];have m:=HC.1 l;rw[Y2,k];simp[i,m]
  .have:¬ 0<=w.q.v:=λh=>by have:=HC.2 h;omega
   simp[k,this]
 .simp[k,i]
end Go.Ab
