/- Lemmas for the law ProjectAppliesMadeModels, part 3. No conditions. -/
import Derived.Test.YthhdboljpgdcpaaGreatDoorDP02
import Derived.Maps.RangeRun
set_option maxRecDepth 100000
set_option maxHeartbeats 4000000
set_option linter.all false
namespace Go.Ab
section
variable (P:Program) (N:Nat) (Q:Exit->St->Prop)
def oL(o:eB)(d:Option Nat)(dd:List (List Nat))(ks:List Kt):Prop:=fV (λv s=>vm P N Q ks ((s.rep d v).eR dd)) o
def JL(st:St)(f:FuncId)(vs:List AV)(d:Option Nat)(dd:List (List Nat))(ks:List Kt):Prop:=vW P st (d.getD 0) f vs λ_ v s=>vm P N Q ks ((s.rep d v).eR dd)
def Ji(st:St)(f:AV)(vs:List AV)(d:Option Nat)(dd:List (List Nat))(ks:List Kt):Prop:=Fk P st (d.getD 0) f vs λ_ v s=>vm P N Q ks ((s.rep d v).eR dd)
def wT(st:St)(op:c7)(d:Option Nat)(dd:List (List Nat))(ks:List Kt):Prop :=
 match op with
 | .call f args=>JL P N Q st f (args.map st.ev) d dd ks
 | .iv x args=>Ji P N Q st (st.ev x) (args.map st.ev) d dd ks
 | op=>oL P N Q (oc st (d.getD 0) op) d dd ks
structure Dr where
 i:Ins
 is:List Ins
 fs:List FP
 pre:List (List Nat)
 dead:List (List Nat)
def Ux(st:St)(f:FuncId)(vs:List AV)(r:Dr)(ks:List Kt):Prop :=
 vW P st (r.i.dst.getD 0) f vs λc v s=>vm P N Q (.fN r.is (r.fs++[fp (some c) st r.i]) r.pre r.dead.tail::ks) ((s.rep r.i.dst v).eR r.dead)
def R1(st:St)(f:AV)(vs:List AV)(r:Dr)(ks:List Kt):Prop :=
 Fk P st (r.i.dst.getD 0) f vs λc v s=>vm P N Q (.fN r.is (r.fs++[fp (some c) st r.i]) r.pre r.dead.tail::ks) ((s.rep r.i.dst v).eR r.dead)
def EU(st:St)(op:c7)(r:Dr)(ks:List Kt):Prop :=
 match op with
 | .call f args=>Ux P N Q st f (args.map st.ev) r ks
 | .iv x args=>R1 P N Q st (st.ev x) (args.map st.ev) r ks
 | op=>oL P N Q (oc st (r.i.dst.getD 0) op) r.i.dst r.dead (.fN r.is (r.fs++[fp none st r.i]) r.pre r.dead.tail::ks)
inductive Hs:Type 1
 | vm (ks:List Kt) (st:St)
 | o (o:eB) (d:Option Nat) (dd:List (List Nat)) (ks:List Kt)
 | op (st:St) (op:c7) (d:Option Nat) (dd:List (List Nat)) (ks:List Kt)
 | UJ (st:St) (op:c7) (r:Dr) (ks:List Kt)
def runT:Hs->Prop
 | .vm ks st=>vm P N Q ks st
 | .o o d dd ks=>oL P N Q o d dd ks
 | .op st b d dd ks=>wT P N Q st b d dd ks
 | .UJ st b r ks=>EU P N Q st b r ks
def rm(c:Bool)(X Y:Hs):Prop:=(c=true->runT P N Q X)/\(c=false->runT P N Q Y)
def NK(v:AV)(X Y:Hs):Prop :=
 match v with
 | .p (.bool c)=>rm P N Q c X Y
 | _=>False
def Ft(v:AV)(b:Bool)(X Y f:Hs):Prop :=
 match v with
 | .p (.bool c)=>if b=true then rm P N Q c X Y else rm P N Q c Y X
 | .skip=>runT P N Q f
 | _=>False
def gA(r:Option (List Kt))(id:Nat)(st:St):Prop :=
 match r with
 | some ks=>vm P N Q ks st
 | none=>Q (.exit id) st
def DG{α : Type}(l:List α)(i:Nat)(K : α -> Prop):Prop:=∃ e,l[i]?=some e/\K e
end
section
variable {P:Program} {N:Nat} {Q:Exit->St->Prop} {st st1:St} {ks:List Kt} {d:Option Nat} {dead dd:List (List Nat)} {dl:List Nat} {α β : Type}
@[simp] theorem yn6:vm P N Q [] st=Q .normal st:=by rw[vm]
@[simp] theorem yn9(j:Nat):vm P N Q (.bX j::ks) st=vm P N Q ks st:=by rw[vm]
@[simp] theorem yl6:vm P N Q (.ins [] dead::ks) st=vm P N Q ks st:=by rw[vm]
@[simp] theorem ykq(b:List FP)(pre:List (List Nat)):vm P N Q (.fN [] b pre dead::ks) st=(aJ [] 0 b pre=true/\vm P N Q ks st):=by rw[vm]
@[simp] theorem yn7(b:c7)(f:List Ins):vm P N Q (.ins (⟨d,b,none⟩::f) dead::ks) st=wT P N Q st b d dead (.ins f dead.tail::ks):=by rw[vm];simp only[BE,wT,pA];cases b<;>rfl
@[simp] theorem yl4(h:c7)(f:List Ins)(t:Nat)(b:Bool):vm P N Q (.ins (⟨d,h,some (t,b)⟩::f) dead::ks) st =
  Ft P N Q (st.get t) b (.op (st.rep (some t) (.p (.bool b))) h d dead (.ins f dead.tail::ks)) (.vm (.ins f dead.tail::ks) (((st.rep (some t) (.p (.bool !b))).rep d .skip).eR dead)) (.vm (.ins f dead.tail::ks) ((st.rep d .skip).eR dead)):=by
 rw[vm];simp only[BE,Ft];cases st.get t with
 | p v =>
  cases v with
  | bool c =>
   have e:∀ s,(pA P s (d.getD 0) h λ_ v s=>vm P N Q (.ins f dead.tail::ks) ((s.rep d v).eR dead))=wT P N Q s h d dead (.ins f dead.tail::ks):=λs=>by simp only[wT,pA];cases h<;>rfl
   simp only[e];cases b<;>simp only[rm,runT,cH,gP,fQ,Bool.not_true,Bool.not_false];rw[and_comm]
  | _=>rfl
 | _=>rfl
@[simp] theorem yl5(b:c7)(h:List Ins)(f:List FP)(pre:List (List Nat)):vm P N Q (.fN (⟨d,b,none⟩::h) f pre dead::ks) st=EU P N Q st b ⟨⟨d,b,none⟩,h,f,pre,dead⟩ ks:=by rw[vm];simp only[BE,EU,pA];cases b<;>rfl
@[simp] theorem ykp(f:c7)(i:List Ins)(t:Nat)(b:Bool)(h:List FP)(pre:List (List Nat)):vm P N Q (.fN (⟨d,f,some (t,b)⟩::i) h pre dead::ks) st =
  Ft P N Q (st.get t) b (.UJ (st.rep (some t) (.p (.bool b))) f ⟨⟨d,f,some (t,b)⟩,i,h,pre,dead⟩ ks)
   (.vm (.fN i (h++[fp none (st.rep (some t) (.p (.bool !b))) ⟨d,f,some (t,b)⟩]) pre dead.tail::ks) (((st.rep (some t) (.p (.bool !b))).rep d .skip).eR dead))
   (.vm (.fN i (h++[fp none st ⟨d,f,some (t,b)⟩]) pre dead.tail::ks) ((st.rep d .skip).eR dead)):=by
 rw[vm];simp only[BE,Ft];cases st.get t with
 | p v =>
  cases v with
  | bool c =>
   have e:∀ s,(pA P s (d.getD 0) f λc v j=>vm P N Q (.fN i (h++[fp c s ⟨d,f,some (t,b)⟩]) pre dead.tail::ks) ((j.rep d v).eR dead))=EU P N Q s f ⟨⟨d,f,some (t,b)⟩,i,h,pre,dead⟩ ks:=λs=>by simp only[EU,pA];cases f<;>rfl
   simp only[e];cases b<;>simp only[rm,runT,cH,gP,fQ,Bool.not_true,Bool.not_false];rw[and_comm]
  | _=>rfl
 | _=>rfl
@[simp] theorem yn5:vm P N Q (.code .js::ks) st=vm P N Q ks st:=by rw[vm]
@[simp] theorem yn4(b:List Ins):vm P N Q (.code (.cX b dead)::ks) st=vm P N Q (.ins b dead::ks) st:=by rw[vm]
@[simp] theorem yl2(b:List Ins)(pre:List (List Nat)):vm P N Q (.code (.fR b pre dead)::ks) st=vm P N Q (.fN b [] pre dead::ks) st:=by rw[vm]
@[simp] theorem yn2(a b:GC):vm P N Q (.code (.seq a b)::ks) st=vm P N Q (.code a::.code b::ks) st:=by rw[vm]
@[simp] theorem yl7(c:bP)(a b:GC):vm P N Q (.code (.cond c dl a b)::ks) st=NK P N Q (st.ev c) (.vm (.code a::ks) (st.drop dl)) (.vm (.code b::ks) (st.drop dl)):=by
 rw[vm];simp only[JM,NK];cases st.ev c with
 | p v=>cases v<;>rfl
 | _=>rfl
@[simp] theorem ykr(id:Nat)(b:GC):vm P N Q (.code (.bX id b)::ks) st=vm P N Q (.code b::.bX id::ks) st:=by rw[vm]
@[simp] theorem yl3(b:GC):vm P N Q (.code (.loop b)::ks) st=vL P N Q b ks st:=by rw[vm]
@[simp] theorem yn8(id:Nat):vm P N Q (.code (.ext id)::ks) st=gA P N Q (fO id ks) id st:=by rw[vm];simp only[gA];split<;>rename_i h<;>simp only[h]
@[simp] theorem yn3:vm P N Q (.code .ret::ks) st=Q .ret st:=by rw[vm]
@[simp] theorem yh0(b:GC):vm P N Q (.code (.cut b)::ks) st=eT P N Q (.code b::ks) .normal st:=by rw[vm]
@[simp] theorem yoa:vm P N Q (.code .bad::ks) st=False:=by rw[vm]
@[simp] theorem Fw(c:Prop)(v:AV)(s:St):oL P N Q (.ok c v s) d dd ks=(c/\vm P N Q ks ((s.rep d v).eR dd)):=rfl
@[simp] theorem yma:oL P N Q .bad d dd ks=False:=rfl
@[simp] theorem yob(t:Bool)(a b:eB):oL P N Q (.br t a b) d dd ks=rm P N Q t (.o a d dd ks) (.o b d dd ks):=rfl
@[simp] theorem yl9(x : α)(l:List α)(f : α -> eB):oL P N Q (.el (x::l) 0 f) d dd ks=oL P N Q (f x) d dd ks:=by simp[oL,fV]
@[simp] theorem yl8(x : α)(l:List α)(n:Nat)(f : α -> eB):oL P N Q (.el (x::l) (n+1) f) d dd ks=oL P N Q (.el l n f) d dd ks:=by simp[oL,fV]
theorem lM(l:List α)(n:Nat)(f : α -> eB):oL P N Q (.el l n f) d dd ks=DG l n λx=>oL P N Q (f x) d dd ks:=rfl
def S2(g : α -> β)(l:List α)(n:Nat)(f : β -> eB):oL P N Q (.el (l.map g) n f) d dd ks=DG l n λx=>oL P N Q (f (g x)) d dd ks:=by simp only[oL,fV,DG,EZ,wL];exact propext ⟨λ⟨e,⟨a,b,h⟩,i⟩=>⟨a,b,h ▸ i⟩,λ⟨a,b,h⟩=>⟨_,⟨a,b,rfl⟩,h⟩⟩
def bK{l:List α}{n:Nat}{K : α -> Prop}(h:n<l.length)(k:K l[n]):DG l n K:=⟨l[n],by simp[h],k⟩
def eD{l:List α}{n:Nat}{x : α}{K : α -> Prop}(h:l[n]?=some x)(k:K x):DG l n K:=⟨x,h,k⟩
section
variable (X Y:Hs)
@[simp] theorem yks:rm P N Q true X Y=runT P N Q X:=by simp[rm]
@[simp] theorem yh5:rm P N Q false X Y=runT P N Q Y:=by simp[rm]
@[simp] theorem yhi(p:Prop)[Decidable p]:rm P N Q (decide p) X Y=((p->runT P N Q X)/\(¬ p->runT P N Q Y)):=by simp[rm]
@[simp] theorem ymc(c:Bool):rm P N Q (!c) X Y=rm P N Q c Y X:=by simp[rm,and_comm]
@[simp] theorem ymf(a b:Bool):rm P N Q (a&&b) X Y=(((a&&b)=true->runT P N Q X)/\((a&&b)=false->runT P N Q Y)):=rfl
@[simp] theorem yoc(a b:Bool):rm P N Q (a||b) X Y=(((a||b)=true->runT P N Q X)/\((a||b)=false->runT P N Q Y)):=rfl
@[simp] theorem yme[BEq α](a b : α):rm P N Q (a == b) X Y=(((a == b)=true->runT P N Q X)/\((a == b)=false->runT P N Q Y)):=rfl
@[simp] theorem ymd[BEq α](a b : α):rm P N Q (a != b) X Y=(((a != b)=true->runT P N Q X)/\((a != b)=false->runT P N Q Y)):=rfl
theorem Gg(c:Bool):rm P N Q c X Y=((c=true->runT P N Q X)/\(c=false->runT P N Q Y)):=rfl
end
attribute [simp] runT NK Ft gA wT EU Ji R1 Fk fO
attribute [simp] fC Ki pC CK NI JR zaY eB.and oc xO
attribute [simp] St.eR
attribute [simp] St.ev St.get look St.rep rep St.drop yc St.site St.obj St.alloc St.setObj aI CR
attribute [simp] AV.sz PV.sz AV.yO PV.yO PV.cells AV.cells AV.rT eQ va A5 A4 AV.ey AV.uT AV.uS AV.jB sW AV.one PV.one PV.nM PV.flat PV.unit PV.rG gJ j' tP yh
attribute [simp] fp runs ek gV vX xQ jC Bz c7.bZ bP.aY aJ yb uX
@[simp] theorem yhy(f:FuncId)(b:List PV)(vs:List AV):Ji P N Q st (.p (.fn f b)) vs d dd ks=JL P N Q st f (vs++b.map .p) d dd ks:=rfl
@[simp] theorem ykm(f:FuncId)(b vs:List AV):Ji P N Q st (.fn f b) vs d dd ks=JL P N Q st f (vs++b) d dd ks:=rfl
def IX{c:bJ}{e:Nat}{vs:List AV}(b:vs.mapM (bH st bF)=some c.args)(hn:BC c.res=false:=by rfl):xR (some c) st e c.f vs=zL c st e vs:=aX ⟨rfl,by rw[z51 hn];exact b⟩
def bA{f:FuncId}{e:Nat}{vs:List AV}{args:List PV}{r:PV}{K:bJ->AV->St->Prop}(hs:Sp P f args (.pure r))(b:vs.mapM (bH st bF)=some args)
  (k:K ⟨f,args,.pure r,none⟩ (.p r) (if r.nM then st else aI st (vs.flatMap (aS st bF)))):vW P st e f vs K :=
 ⟨⟨f,args,.pure r,none⟩,hs,.p r,_,IX (c:=⟨f,args,.pure r,none⟩) b,k⟩
def aW{f:FuncId}{e:Nat}{vs:List AV}{args:List PV}{r:PV}{K:bJ->AV->St->Prop}(hs:Sp P f args (.pure r))
 (k:K ⟨f,args,.pure r,none⟩ (.p r) (if r.nM then st else aI st (vs.flatMap (aS st bF)))) (b:vs.mapM (bH st bF)=some args:=by simp):vW P st e f vs K:=bA hs b k
theorem EF{f:FuncId}{e:Nat}{vs:List AV}{args:List PV}{sz:Nat}{es:List PV}{K:bJ->AV->St->Prop}(hs:Sp P f args (.fresh sz es))(i:vs.mapM (bH st bF)=some args)
  (h:es.all (λv=>v.sz == sz)=true/\0<sz/\es.length<=eL) (st1:St) (b:st1=(if es.all PV.flat then st else aI st (vs.flatMap (aS st bF))))
  (k:K ⟨f,args,.fresh sz es,none⟩ (.own e (st1.site e).length 0 es.length) (st1.alloc e ⟨sz,es.map .p⟩)):vW P st e f vs K:=by
 subst b;refine⟨⟨f,args,.fresh sz es,none⟩,hs,_,_,(IX (c:=⟨f,args,.fresh sz es,none⟩) i).trans ?_,k⟩;simp only[zL,zN];rw[aX h];rfl
def yfz:AV->Bool
 | .undef=>false
 | _=>true
def yg7{f:FuncId}{e:Nat}{vs:List AV}{hp b:List Site}{i:HV}{K:bJ->AV->St->Prop}(hs:kU P f vs hp none i b none)(hu:vs.all yfz=true)(l:qA st hp hp)(j:b.map (·.1)=hp.map (·.1))
  (m:(lC (hp.map (·.1)) vs&&dS (hp.map (·.1)) hp&&vU (hp.map (·.1)) i&&dS (hp.map (·.1)) b)=true)
  (k:K ⟨f,[],.oo vs hp i b,none⟩ (sO i ⟨st.sl,b++st.hp⟩ e).1 (sO i ⟨st.sl,b++st.hp⟩ e).2):vW P st e f vs K :=
 ⟨⟨f,[],.oo vs hp i b,none⟩,hs,_,_,aX ⟨rfl,rfl,(λh=>by have:=k8.1 hu _ h;cases this),l,j,m⟩,k⟩
def dC{f:FuncId}{vs:List AV}{args:List PV}{r:PV}(hs:Sp P f args (.pure r))(b:vs.mapM (bH st bF)=some args)
  (k:vm P N Q ks (((if r.nM then st else aI st (vs.flatMap (aS st bF))).rep d (.p r)).eR dd)):JL P N Q st f vs d dd ks:=bA hs b k
def fL{f:FuncId}{vs:List AV}{args:List PV}{r:PV}{D:Dr}(hs:Sp P f args (.pure r))(b:vs.mapM (bH st bF)=some args)
  (k:vm P N Q (.fN D.is (D.fs++[fp (some ⟨f,args,.pure r,none⟩) st D.i]) D.pre D.dead.tail::ks) (((if r.nM then st else aI st (vs.flatMap (aS st bF))).rep D.i.dst (.p r)).eR D.dead)):Ux P N Q st f vs D ks:=bA hs b k
theorem gu.inv{b:AC}{α : Type}(S : α -> St)(I : α -> Prop)(m : α -> Nat)
  (step:∀ x,I x->∀ R:Exit->St->Prop,(∀ y s,aA s (S y)->I y->m y<m x->R .normal s)->(∀ ex s,ex ≠ .normal->Q ex s->R ex s)->∃ ex s,cU P N b (S x) ex s/\R ex s) :
  ∀ (n:Nat) (x : α),m x<n->I x->∀ {st:St},aA st (S x)->∃ ex s,gu P N b st ex s/\Q ex s
 | 0,_,h,_,_,_=>absurd h (Nat.not_lt_zero _)
 | n+1,x,h,p,st,k=>by
  obtain⟨ex,s,l,o⟩:=step x p (λex s=>(ex=.normal->∃ y,aA s (S y)/\I y/\m y<m x)/\(ex ≠ .normal->Q ex s)) (λy s f i h3=>⟨λ_=>⟨y,f,i,h3⟩,λh=>absurd rfl h⟩) (λex s f i=>⟨λh=>absurd h f,λ_=>i⟩);by_cases j:ex=.normal
  .subst j;obtain⟨y,z,C,D⟩:=o.1 rfl;obtain⟨ex,u,r,t⟩:=gu.inv S I m step n y (by omega) C z;exact⟨ex,u,gu.nK k (.next _ _ _ _ l r),t⟩
  .exact⟨_,s,gu.nK k (.out _ _ _ l j),o.2 j⟩
def TT(P:Program)(N:Nat)(Q:Exit->St->Prop)(ks:List Kt):Exit->St->Prop
 | .exit id,s=>gA P N Q (fO id ks) id s
 | ex,s=>Q ex s
def Ia{ex:Exit}{s:St}(i:ex ≠ .normal)(h:TT P N Q ks ex s)(f:ex=.ret\/∃ id,ex=.exit id):eT P N Q ks ex s:=by
 obtain rfl|⟨id,rfl⟩:=f
 .exact zU h
 .refine Es ?_;simp only[TT,gA]at h;split at h
  .rename_i b;simp only[b];exact lL _ (dE _) h
  .rename_i b;simp only[b];exact h
def b6{b:GC}{α : Type}(S : α -> St)(I : α -> Prop)(m : α -> Nat)(f : α)(j:aA st (S f))(l:I f)
  (step:∀ x,I x->∀ R:Exit->St->Prop,(∀ y s,aA s (S y)->I y->m y<m x->R .normal s)->(∀ s,Q .ret s->R .ret s)->(∀ id s,gA P N Q (fO id ks) id s->R (.exit id) s)->vm P N R [.code b] (S x)) :
  vL P N Q b ks st:=by
 refine gu.inv (Q:=eT P N Q ks) S I m (λx n R k i=>?_) (m f+1) f (Nat.lt_succ_self _) l j;obtain⟨ex,s,o,p⟩:=lL (P:=P) (N:=N) _ (dE _) (step x n R k (λs h=>i _ _ (by simp) (zU h)) (λid s h=>i _ _ (by simp) (Ia (by simp) h (.inr ⟨id,rfl⟩))));exact⟨ex,s,o,p⟩
end
attribute [simp] IntKind.bits
class Enc (α : Type) where
 enc : α -> PV
 sz:Nat
 pos:0<sz
 ok:∀ x,(enc x).sz=sz
open Enc (enc)
def ens{α : Type}[Enc α](l:List α):List PV:=l.map enc
def aK{α : Type}[Enc α](l:List α):List AV:=(ens l).map .p
instance:Enc UInt32:=⟨λx=>.int .u32 x.toNat,1,Nat.one_pos,λ_=>rfl⟩
instance:Enc UInt64:=⟨λx=>.int .u64 x.toNat,1,Nat.one_pos,λ_=>rfl⟩
instance:Enc Int:=⟨λx=>.int .i64 x,1,Nat.one_pos,λ_=>rfl⟩
instance:Enc Bool:=⟨λx=>.bool x,1,Nat.one_pos,λ_=>rfl⟩
instance {α : Type} [Enc α]:Enc (List α):=⟨λx=>.sl (ens x),1,Nat.one_pos,λ_=>rfl⟩
@[simp] theorem ygu(x:UInt32):enc x=.int .u32 x.toNat:=rfl
@[simp] theorem ygt(x:UInt64):enc x=.int .u64 x.toNat:=rfl
@[simp] theorem yng(x:Int):enc x=.int .i64 x:=rfl
@[simp] theorem yk9(x:Bool):enc x=.bool x:=rfl
@[simp] theorem yk8{α : Type}[Enc α](x:List α):enc x=.sl (ens x):=rfl
@[simp] theorem yjv:Enc.sz UInt32=1:=rfl
@[simp] theorem yju:Enc.sz UInt64=1:=rfl
@[simp] theorem yjy:Enc.sz Int=1:=rfl
@[simp] theorem yhr:Enc.sz Bool=1:=rfl
@[simp] theorem yhq{α : Type}[Enc α]:Enc.sz (List α)=1:=rfl
section
variable {P:Program} {N:Nat} {Q:Exit->St->Prop} {st st1:St} {ks:List Kt} {d:Option Nat} {dd:List (List Nat)} {α β : Type} [Enc α] [Enc β]
@[simp] theorem Mt(l:List α):(ens l).length=l.length:=by simp[ens]
@[simp] theorem vE(l:List α):(aK l).length=l.length:=by simp[aK,ens]
@[simp] theorem ynb:ens ([]:List α)=[]:=rfl
@[simp] theorem Kr:aK ([]:List α)=[]:=rfl
@[simp] theorem yk1(x : α)(l:List α):ens (x::l)=enc x::ens l:=rfl
@[simp] theorem ylz(x : α)(l:List α):aK (x::l)=.p (enc x)::aK l:=rfl
@[simp] theorem yk0(l:List α)(n:Nat):(ens l).drop n=ens (l.drop n):=by simp[ens,List.map_drop]
@[simp] theorem ykz(l:List α)(n:Nat):(ens l).take n=ens (l.take n):=by simp[ens,List.map_take]
@[simp] theorem yly(l:List α)(n:Nat):(aK l).drop n=aK (l.drop n):=by simp[aK,ens,List.map_drop]
@[simp] theorem H5(l:List α)(n:Nat):(aK l).take n=aK (l.take n):=by simp[aK,ens,List.map_take]
@[simp] theorem sR(l r:List α):aK (l++r)=aK l++aK r:=by simp[aK,ens]
@[simp] theorem gW(l:List α):(ens l).map AV.p=aK l:=rfl
def SX(l:List α):∀ v∈ens l,v.sz=Enc.sz α := by intro v b;obtain⟨x,_,rfl⟩:=cA.1 b;exact Enc.ok x
@[simp] theorem Ww(n:Nat)(l:List α):yL n (ens l)=((n=Enc.sz α \/ l=[])/\0<n):=by
 simp only[yL,ens,List.all_map,k8,Function.comp_apply,beq_iff_eq,Enc.ok];cases l with
 | nil=>simp
 | cons x l =>
  refine propext ⟨λ⟨h,b⟩=>⟨.inl (h x (by simp)).symm,b⟩,λ⟨h,b⟩=>⟨λy _=>?_,b⟩⟩;obtain h|h:=h
  .exact h.symm
  .cases h
@[simp] theorem ymj(n:Nat)(l:List α):tZ n (aK l)=((n=Enc.sz α \/ l=[])/\0<n):=by
 have:tZ n (aK l)=yL n (ens l):=by
  simp only[tZ,yL,aK,List.all_map]
  congr 2
 rw[this,Ww]
@[simp] theorem ykv(n:Nat)(v:AV)(l:List AV):tZ n (v::l)=(v.sz=n/\tZ n l):=by simp[tZ,and_assoc]
@[simp] theorem ymi(n:Nat):tZ n []=(0<n):=by simp[tZ]
@[simp] theorem yhj(n:Nat)(l r:List AV):tZ n (l++r)=(tZ n l/\tZ n r):=by simp only[tZ,List.all_append,jO];exact propext ⟨λ⟨⟨a,b⟩,c⟩=>⟨⟨a,c⟩,b,c⟩,λ⟨⟨a,c⟩,b,_⟩=>⟨⟨a,b⟩,c⟩⟩
@[simp] theorem yny(l:List α):(aK l).map AV.ey=aK l:=by simp[-gW,aK,AV.ey]
@[simp] theorem yd8(l:List α)(n:Nat)(f:PV->eB):oL P N Q (.el (ens l) n f) d dd ks=DG l n λx=>oL P N Q (f (enc x)) d dd ks:=S2 enc l n f
@[simp] theorem ymb(l:List α)(n:Nat)(f:AV->eB):oL P N Q (.el (aK l) n f) d dd ks=DG l n λx=>oL P N Q (f (.p (enc x))) d dd ks:=by unfold aK;rw[S2,<- lM,yd8]
@[simp] theorem yhc(l:List α)(n:Nat)(x : α):aK (l.set n x)=(aK l).set n (.p (enc x)):=by simp[-gW,aK,ens,EX]
@[simp] theorem Ja(n:Nat)(x : α):aK (List.replicate n x)=List.replicate n (.p (enc x)):=by simp[-gW,aK,ens]
def CZ(l:List α)(n:Nat)(x : α){v:AV}(h:v=.p (enc x)):(aK l).set n v=aK (l.set n x):=by subst h;exact(yhc l n x).symm
@[simp] theorem yod(n:Nat)(st:St)(v:PV):bH st (n+1) (.p v)=some v:=rfl
@[simp] theorem yh9(n:Nat)(st:St):bH st (n+1) .nil=some (.sl []):=rfl
@[simp] theorem ymg(st:St)(v:PV):bH st bF (.p v)=some v:=rfl
@[simp] theorem yib(st:St):bH st bF .nil=some (.sl []):=rfl
@[simp] theorem T5(n:Nat)(st:St)(v:PV):aS st n (.p v)=[]:=by cases n<;>rfl
@[simp] theorem ykd(n:Nat)(st:St):aS st n .nil=[]:=by cases n<;>rfl
@[simp] theorem Se(n:Nat)(st:St)(l:List PV):(l.map AV.p).mapM (bH st (n+1))=some l:=by
 induction l with
 | nil=>rfl
 | cons x l b=>simp only[jH,Cg,b];rfl
@[simp] theorem Ib(n:Nat)(st:St)(l:List α):(aK l).mapM (bH st (n+1))=some (ens l):=Se n st _
@[simp] theorem Yo(n:Nat)(st:St)(l:List PV):(l.map AV.p).flatMap (aS st n)=[]:=by
 induction l with
 | nil=>rfl
 | cons x l b=>simp only[jH,jG,b,T5];rfl
@[simp] theorem ygo(n:Nat)(st:St)(l:List α):(aK l).flatMap (aS st n)=[]:=Yo n st _
@[simp] theorem Xl(st:St)(s g off b:Nat):aS st bF (.own s g off b)=(s,g)::(match st.obj s g with|some o=>o.es.flatMap (aS st 5)|none=>[]):=rfl
@[simp] theorem ykf(st:St)(s g off b:Nat):aS st bF (.ptr s g off b)=(s,g)::(match st.obj s g with|some o=>o.es.flatMap (aS st 5)|none=>[]):=rfl
@[simp] theorem P7(st:St)(s g off b:Nat):bH st bF (.own s g off b)=match st.obj s g with
  | some o=>if off+b<=o.es.length then(((o.es.drop off).take b).mapM (bH st 5)).map .sl else none
  | none=>none:=rfl
@[simp] theorem yic(st:St)(cs:List AV):bH st bF (.agg cs)=(cs.mapM (bH st 5)).map .agg:=rfl
@[simp] theorem yia(st:St)(cs:List AV):bH st bF (.bM cs)=(cs.mapM (bH st 5)).map .bM:=rfl
@[simp] theorem yku(st:St)(f:FuncId)(cs:List AV):bH st bF (.fn f cs)=(cs.mapM (bH st 5)).map (.fn f):=rfl
def kO(s:St)(v:AV):RV->Prop
 | .pure p=>bH s bF v=some p
 | .fresh j h=>match v with
  | .own i g f b=>∃ o,s.obj i g=some o/\f=0/\b=o.es.length/\o.sz=j/\o.es=h.map .p
  | .nil=>h=[]
  | _=>False
 | _=>False
def iD(rs:List (Nat × Option Nat))(b:RV):Exit->St->Prop
 | .ret,s=>∃ f,oF s rs=some f/\kO s (dD f) b
 | .normal,s=>∃ f,oF s rs=some f/\kO s (dD f) b
 | _,_=>False
attribute [simp] iD kO oF BJ dD vy DQ
def Sp.cE{f:FuncId}{args:List PV}{res:RV}{n np:Nat}{b:GC}{rs:List (Nat × Option Nat)}(r:aP P f=some ⟨n,np,b.er,rs⟩)(hn:args.length<=n)(h:vm P n (iD rs res) [.code b] (vy args)):Sp P f args res:=by
 obtain⟨ex,s,u,j⟩:=lL _ (dE _) h;have key:(ex=.ret\/ex=.normal)/\∃ vs,oF s rs=some vs/\kO s (dD vs) res:=by
  change iD rs res ex s at j
  cases ex with
  | ret=>exact⟨.inl rfl,j⟩
  | normal=>exact⟨.inr rfl,j⟩
  | _=>exact j.elim
 obtain⟨t,vs,x,i⟩:=key;refine Sp.gG r hn u t x ?_;unfold kO at i;split at i
 .exact .pure _ _ i
 .split at i
  .rename_i sz es s' g off len k;obtain⟨o,l,rfl,m,rfl,p⟩:=i;rw[k];exact .fresh _ _ _ _ _ l m p
  .rename_i k;rw[k,i];exact .nil _
  .exact i.elim
 .exact i.elim
def Np{b:GC}{γ : Type}(S : γ -> St)(I : γ -> Prop)
  (h:∀ R:Exit->St->Prop,(∀ y s,aA s (S y)->I y->R .normal s)->(∀ s,Q .ret s->R .ret s)->(∀ id s,gA P N Q (fO id ks) id s->R (.exit id) s)->vm P N R [.code b] st)
  (m:∀ y,I y->vm P N Q ks (S y)):eT P N Q (.code b::ks) .normal st:=by
 obtain⟨ex,s,i,j⟩:=lL (P:=P) (N:=N) _ (dE _) (h (λex s=>(ex=.normal->∃ y,aA s (S y)/\I y)/\(ex ≠ .normal->eT P N Q ks ex s)) (λy s k l=>⟨λ_=>⟨y,k,l⟩,λh=>absurd rfl h⟩)
  (λs h=>⟨λh=>(by cases h),λ_=>zU h⟩) (λid s h=>⟨λh=>(by cases h),λ_=>Ia (by simp) h (.inr ⟨id,rfl⟩)⟩))
 by_cases f:ex=.normal
 .subst f;obtain⟨y,n,o⟩:=j.1 rfl;exact⟨.normal,S y,i.sU n,lL _ (dE _) (m y o)⟩
 .exact⟨ex,s,i,j.2 f⟩
end
mutual
def nY:PV->Prop
 | .sl f=>f.length<=maxLen/\rV f
 | .agg b=>rV b
 | .ref v=>nY v
 | .fn _ b=>rV b
 | .bM h=>rV h
 | _=>True
def rV:List PV->Prop
 | []=>True
 | v::r=>nY v/\rV r
end
theorem Q2:∀ {l r:List PV},rV (l++r) ↔ rV l/\rV r
 | [],r=>by simp[rV]
 | v::l,r=>by simp[rV,Q2 (l:=l),and_assoc]
def PJ(v:PV)(h:rV v.cells):nY v:=by cases v<;>simp only[PV.cells,rV,nY,and_true]at h ⊢ <;> exact h
theorem O3:∀ {es:List PV},rV (es.flatMap PV.cells)->rV es
 | [],_=>trivial
 | e::es,h=>by rw[jG,Q2]at h;exact⟨PJ e h.1,O3 h.2⟩
mutual
theorem PRep.rU{M:Nat->Option Obj}:∀ {v:PV} {x:Value},PRep M v x->nY v
 | _,_,.bool _=>by simp[nY]
 | _,_,.int _ _=>by simp[nY]
 | _,_,.str _=>by simp[nY]
 | _,_,.aL=>by simp[nY]
 | _,_,.any _ _=>by simp[nY]
 | _,_,.nl _=>by simp[nY]
 | _,_,.sle _ _=>by simp[nY]
 | _,_,.fM _=>by simp[nY]
 | _,_,.wZ _=>by simp[nY]
 | _,_,.mp _ _ _ _ _ _ _ _ _ _ _=>by simp[nY]
 | _,_,.rB _ _=>by simp[nY,rV]
 | _,_,.sl es b o cap cur T fr sz vals k l m h3 i n p j=>by
  simp only[nY];exact⟨j,O3 (PReps.rU i)⟩
 | _,_,.agg cs vals _ h=>by simp only[nY];exact PReps.rU h
 | _,_,.fn f iF vals h=>by simp only[nY];exact PReps.rU h
 | _,_,.ref v b o cur T fr vals _ _ _ h _=>by simp only[nY];exact PJ v (PReps.rU h)
 | _,_,.bM vs vals h=>by simp only[nY];exact PReps.rU h
theorem PReps.rU{M:Nat->Option Obj}:∀ {v:List PV} {x:List Value},PReps M v x->rV v
 | _,_,.nil=>trivial
 | _,_,.cons v x vs xs h hs=>⟨PRep.rU h,PReps.rU hs⟩
end
section
variable {P:Program} {N:Nat} {Q:Exit->St->Prop} {st:St} {α β : Type} [Enc α] [Enc β]
def Mw{f:FuncId}{C:Cv}(b:aP P f=some C):∃ i,P.funcs[f]?=some i/\i.body.isSome=true/\i.name ≠ "runtime.NumGoroutine" := by
 unfold aP at b;split at b
 .rename_i i k;split at b
  .rename_i h;split at b
   .rename_i c j;exact⟨i,k,by rw[j];rfl,h⟩
   .cases b
  .cases b
 .cases b
def Sp.Dw{f:FuncId}{args:List PV}{res:RV}{n np:Nat}{b:GC}{rs:List (Nat × Option Nat)}(i:aP P f=some ⟨n,np,b.er,rs⟩)(hn:args.length<=n)(h:rV args->vm P n (iD rs res) [.code b] (vy args)):Sp P f args res :=
 ⟨Mw i,λw M vals k j=>(Sp.cE i hn (h j.rU)).2 w M vals k j⟩
def Sp.vz{f:FuncId}{args:List PV}{res:RV}{n np:Nat}{b:GC}{rs:List (Nat × Option Nat)}(i:aP P f=some ⟨n,np,b.er,rs⟩)(h:rV args->vm P n (iD rs res) [.code b] (vy args))(hn:args.length<=n:=by simp):Sp P f args res:=Sp.Dw i hn h
def Zv{es:List PV}(h:nY (.sl es)):es.length<=maxLen:=by simp only[nY]at h;exact h.1
def FG{l:List α}(h:nY (.sl (ens l))):l.length<=9223372036854775807:=by have:=Zv h;simpa[Mt,maxLen]using this
end
@[simp] theorem O8(n:Int):IntKind.u32.wrap n=n % 4294967296:=by simp[IntKind.wrap,IntKind.signed,IntKind.bits]
@[simp] theorem O9(n:Int):IntKind.u64.wrap n=n % 18446744073709551616:=by simp[IntKind.wrap,IntKind.signed,IntKind.bits]
@[simp] theorem yl0(n:Int):IntKind.u8.wrap n=n % 256:=by simp[IntKind.wrap,IntKind.signed,IntKind.bits]
def wrap_i64(n:Int):IntKind.i64.wrap n=(n+9223372036854775808) % 18446744073709551616 - 9223372036854775808:=by rw[IntKind.wrap_i64]
def cL{n:Int}(b:-9223372036854775808<=n:=by omega)(f:n<=9223372036854775807:=by omega):IntKind.i64.wrap n=n:=IntWalk.i64_in n ⟨b,f⟩
def aZ(k:Nat)(h:(k:Int)<=9223372036854775806:=by omega):IntKind.i64.wrap ((k:Int)+1)=((k+1:Nat):Int):=by rw[cL];omega
def cT{n:Int}(h : -9223372036854775808<=n:=by omega)(k:n<=9223372036854775807:=by omega):IntKind.i64.wrap n=n:=cL h k
section
variable {α : Type} [Enc α] {st st':St}
attribute [simp] St.yI St.mX Eg aB nF xK Fo eo fq pR lC vT aO bC fU JS eL
@[simp] theorem yky(b:List Nat)(ids:List ((Nat × Nat) × Nat))(l:List α):fq b ids (aK l)=aK l:=Ur _
@[simp] theorem ye4(b:List Nat)(ids:List ((Nat × Nat) × Nat))(l r:List AV):fq b ids (l++r)=fq b ids l++fq b ids r:=by simp[tV]
@[simp] theorem z8x(b:List Nat)(ids:List ((Nat × Nat) × Nat))(n:Nat)(v:AV):fq b ids (List.replicate n v)=List.replicate n (eo b ids v):=by simp[tV]
@[simp] theorem ykx(b:List Nat)(ids:List ((Nat × Nat) × Nat))(l:List AV)(n:Nat)(v:AV):fq b ids (l.set n v)=(fq b ids l).set n (eo b ids v):=by simp[tV,EX]
@[simp] theorem yhk(ks:List Nat)(l:List α):lC ks (aK l)=true:=by rw[yE,k8];intro v b;simp only[aK,cA]at b;obtain⟨p,_,rfl⟩:=b;rfl
def aA.cW(keep c6:List Nat)(ids:List ((Nat × Nat) × Nat))(h:st.mX keep c6 ids=some st'):aA st st':=aA.UK h
def aA.to(keep:List Nat)(ids:List ((Nat × Nat) × Nat))(h:st.yI keep ids=some st'):aA st st':=aA.of h
def aA.nl(t s sz:Nat){st1:St}(h:st.mf t s sz=some st1)(k:aA st1 st'):aA st st':=(aA.Bp h).trans k
end
theorem By{w:Nat}{x:Nat}(h:x<2^w):(BitVec.ofInt w (x:Int)).toNat=x:=by rw[BitVec.toNat_ofInt];rw[Int.emod_eq_of_lt (by omega) (by exact_mod_cast h)];rfl
def KG{x y:Nat}(b:x<18446744073709551616)(f:y<18446744073709551616):Fi .u64 x y=((x ||| y:Nat):Int):=by have:=Nx (n:=64) (x:=x) (y:=y) b f;show IntKind.u64.wrap (BitVec.ofInt 64 x ||| BitVec.ofInt 64 y).toNat=_;rw[O9,BitVec.toNat_or,By (by exact b),By (by exact f)];omega
def Sx{x y:Nat}(b:x<4294967296)(f:y<4294967296):Fi .u32 x y=((x ||| y:Nat):Int):=by have:=Nx (n:=32) (x:=x) (y:=y) b f;show IntKind.u32.wrap (BitVec.ofInt 32 x ||| BitVec.ofInt 32 y).toNat=_;rw[O8,BitVec.toNat_or,By (by exact b),By (by exact f)];omega
def yc0{x y:Nat}(f:x<18446744073709551616)(b:y<18446744073709551616):Bx .u64 x y=((x &&& y:Nat):Int):=by have:=Nat.and_lt_two_pow (n:=64) x (y:=y) b;show IntKind.u64.wrap (BitVec.ofInt 64 x &&& BitVec.ofInt 64 y).toNat=_;rw[O9,BitVec.toNat_and,By (by exact f),By (by exact b)];omega
def yc1{x y:Nat}(f:x<4294967296)(b:y<4294967296):Bx .u32 x y=((x &&& y:Nat):Int):=by have:=Nat.and_lt_two_pow (n:=32) x (y:=y) b;show IntKind.u32.wrap (BitVec.ofInt 32 x &&& BitVec.ofInt 32 y).toNat=_;rw[O8,BitVec.toNat_and,By (by exact f),By (by exact b)];omega
def Nf{x y k:Nat}(h:y<2^k):(x*2^k) ||| y=x*2^k+y:=by rw[<- Nat.shiftLeft_eq,Nat.shiftLeft_add_eq_or_of_lt h]
def yfu{x y k:Nat}(h:y<2^k):y ||| (x*2^k)=x*2^k+y:=by rw[Nat.or_comm,Nf h]
@[simp] theorem yh3(x:UInt32):(x.toNat:Int) % 18446744073709551616=x.toNat:=by have:=x.toNat_lt;omega
@[simp] theorem yh4(x:UInt32):(x.toNat:Int) % 4294967296=x.toNat:=by have:=x.toNat_lt;omega
@[simp] theorem yh2(x:UInt64):(x.toNat:Int) % 18446744073709551616=x.toNat:=by have:=x.toNat_lt;omega
def T1(x y:Nat):((x:Nat):Int).tdiv (y:Int)=((x / y:Nat):Int):=by rw[Int.tdiv_eq_ediv_of_nonneg (by omega)];exact(Int.natCast_ediv x y).symm
def Jd(x y:Nat):((x:Nat):Int).tmod (y:Int)=((x % y:Nat):Int):=by rw[Int.tmod_eq_emod_of_nonneg (by omega)];exact(Int.natCast_emod x y).symm
def Ng{r x k:Nat}(f:r*2^k<18446744073709551616)(h:x<2^k)(b:x<18446744073709551616):Fi .u64 ((r:Int)*2^k % 18446744073709551616) x=((r*2^k+x:Nat):Int):=by
 have e:((r:Int)*2^k % 18446744073709551616)=((r*2^k:Nat):Int):=by
  have:((r:Int)*2^k)=((r*2^k:Nat):Int):=by simp
  rw[this];omega
 rw[e,KG f b,Nf h]
def yft{r x k:Nat}(f:r*2^k<18446744073709551616)(h:x<2^k)(b:x<18446744073709551616):Fi .u64 x ((r:Int)*2^k % 18446744073709551616)=((r*2^k+x:Nat):Int):=by
 have e:((r:Int)*2^k % 18446744073709551616)=((r*2^k:Nat):Int):=by
  have:((r:Int)*2^k)=((r*2^k:Nat):Int):=by simp
  rw[this];omega
 rw[e,KG b f,yfu h]
section
variable {st:St} {α : Type} [Enc α]
def uF{s g n sz:Nat}{es:List AV}{l:List α}(f:st.obj s g=some ⟨sz,es⟩)(b:es=aK l)(hn:n=l.length):bH st bF (.own s g 0 n)=some (.sl (ens l)):=by subst b hn;simp only[P7,f,vE,sG,dE,cH,Ae,H5,kK,Ib,E4]
theorem kX{v:AV}{vs:List AV}{p:PV}{ps:List PV}(h:bH st bF v=some p)(k:vs.mapM (bH st bF)=some ps):(v::vs).mapM (bH st bF)=some (p::ps):=by simp only[Cg,h,k];rfl
theorem pS:([]:List AV).mapM (bH st bF)=some []:=rfl
end
attribute [simp] St.put St.mf
@[simp] theorem yh8(n:Nat)(st:St)(cs:List AV):bH st (n+1) (.agg cs)=(cs.mapM (bH st n)).map .agg:=rfl
@[simp] theorem yh6(n:Nat)(st:St)(cs:List AV):bH st (n+1) (.bM cs)=(cs.mapM (bH st n)).map .bM:=rfl
@[simp] theorem ykt(n:Nat)(st:St)(f:FuncId)(cs:List AV):bH st (n+1) (.fn f cs)=(cs.mapM (bH st n)).map (.fn f):=rfl
@[simp] theorem yh7(n:Nat)(st:St)(s g off b:Nat):bH st (n+1) (.own s g off b)=match st.obj s g with
  | some o=>if off+b<=o.es.length then(((o.es.drop off).take b).mapM (bH st n)).map .sl else none
  | none=>none:=rfl
@[simp] theorem Xm(n:Nat)(st:St)(s g off b:Nat):aS st (n+1) (.own s g off b)=(s,g)::(match st.obj s g with|some o=>o.es.flatMap (aS st n)|none=>[]):=rfl
@[simp] theorem ykb(n:Nat)(st:St)(s g off b:Nat):aS st (n+1) (.ptr s g off b)=(s,g)::(match st.obj s g with|some o=>o.es.flatMap (aS st n)|none=>[]):=rfl
@[simp] theorem ykc(n:Nat)(st:St)(cs:List AV):aS st (n+1) (.agg cs)=cs.flatMap (aS st n):=rfl
@[simp] theorem ykg(st:St)(cs:List AV):aS st bF (.agg cs)=cs.flatMap (aS st 5):=rfl
@[simp] theorem ylx(st:St)(f:FuncId)(cs:List AV):aS st bF (.fn f cs)=cs.flatMap (aS st 5):=rfl
section
variable {P:Program} {K:Ctx} {Z Z':Cz} {st st' st1 st2:St} {w w':World} {a:Act} {N:Nat} {ex:Exit}
def aN.root(hs:aN K Z st w a):aN ⟨w,Z.M,lH Z st,K.N⟩ Z st w a :=
 ⟨hs.aY,hs.defers,hs.size,⟨hs.heap.bT,hs.heap.inj,hs.heap.mem,hs.heap.sep,λs g o _ f b=>.inl ⟨s,g,o,f,b⟩,λ_ _ h=>h,λ_ _ h=>.inl h,Keep.refl w _⟩⟩
def aN.rO{p:Act}(hs:aN K Z st w a)(f:aN ⟨w,Z.M,lH Z st,K.N⟩ Z' st' w' p):aN K Z' st' w' p:=by
 have i:∀ b,lH Z st b->K.X0 b\/K.w0.heap.size<=b:=λb ⟨s,g,o,n,k⟩=>hs.heap.own s g o b n k;have m:=hs.heap.keep.size;refine⟨f.aY,f.defers,f.size,⟨f.heap.bT,f.heap.inj,f.heap.mem,f.heap.sep,λs g o b n k=>?_,λb o h=>f.heap.m0 b o (hs.heap.m0 b o h),λb o h=>?_,?_⟩⟩
 .obtain h|h:=f.heap.own s g o b n k
  .exact i b h
  .exact .inr (dM m h)
 .obtain h|h|h:=f.heap.eM b o h
  .exact hs.heap.eM b o h
  .obtain h|h:=i b h
   .exact .inr (.inl h)
   .exact .inr (.inr h)
  .exact .inr (.inr (dM m h))
 .have j:=hs.heap.keep;have l:=f.heap.keep;refine⟨l.os.trans j.os,l.tape.trans j.tape,l.output.trans j.output,dM j.drawn l.drawn,dM j.size l.size,λb k r=>?_⟩;rw[l.bX b (iL k j.size) (λh=>by obtain h|h:=i b h;exact r h;omega),j.bX b k r]
def sv.later{n:Act}{r:Nat}(i:sv Z st w r)(b:aN ⟨w,Z.M,lH Z st,N⟩ Z' st' w' n):sv Z' st' w' r/\w'.heap[r]?=w.heap[r]?:=by
 have f:¬ lH Z st r:=λ⟨s,g,o,l,k⟩=>i.o s g o l k;refine⟨⟨?_,λs g o l k=>?_,iL i.lt b.heap.keep.size⟩,b.heap.keep.bX r i.lt f⟩
 .cases hm:Z'.M r with
  | none=>rfl
  | some o =>
   obtain h|h|h:=b.heap.eM r o hm
   .have j:Z.M r=some o:=h;rw[i.m]at j;cases j
   .exact absurd h f
   .have j:w.heap.size<=r:=h;have:=i.lt;omega
 .obtain h|h:=b.heap.own s g o r l k
  .exact f h
  .have j:w.heap.size<=r:=h;have:=i.lt;omega
structure mN (Z:Cz) (st:St) (w:World) (Z':Cz) (st':St) (w':World):Prop where
 M:∀ b o,Z.M b=some o->Z'.M b=some o
 f:∀ r,sv Z st w r->sv Z' st' w' r/\w'.heap[r]?=w.heap[r]?
 Bl:cY Z st Z' st'
def mN.trans{i Z2 j:Cz}{s1 l m:St}{w1 w2 w3:World}(h:mN i s1 w1 Z2 l w2)(k:mN Z2 l w2 j m w3):mN i s1 w1 j m w3 :=
 ⟨λb o e=>k.M b o (h.M b o e),λr s=>by obtain⟨n,p⟩:=h.f r s;obtain⟨t,u⟩:=k.f r n;exact⟨t,u.trans p⟩,h.Bl.trans k.Bl⟩
def cU.frame{ac:AC}{code:Code}{Q:Exit->Act->World->Prop}(h:cU P N ac st ex st')(k:comp P N code=some ac)(i:K.N=N)(hs:aN K Z st w a)
  (j:∀ Z' w' f,aN K Z' st' w' f->cY Z st Z' st'->mN Z st w Z' st' w'->Q ex f w'):code.wp P Q a w:=by
 subst i;refine h code k ⟨w,Z.M,lH Z st,K.N⟩ Z w a Q rfl hs.root λZ' w' f b hp=>j Z' w' f (hs.rO b) hp ⟨b.heap.m0,λr l=>l.later b,hp⟩
end
def GH(s:St)(v:AV)(n:Nat):RV->Prop
 | .pure p=>bH s bF v=some p/\(bC,0)∉aS s bF v
 | .same l=>v=.own bC 0 0 l/\l<=n
 | _=>False
def Dt(rs:List (Nat × Option Nat))(sz:Nat)(b:List PV)(n:Nat)(f:RV):Exit->St->Prop
 | .ret,s=>∃ h,oF s rs=some h/\s.obj bC 0=some ⟨sz,b.map .p⟩/\GH s (dD h) n f
 | .normal,s=>∃ h,oF s rs=some h/\s.obj bC 0=some ⟨sz,b.map .p⟩/\GH s (dD h) n f
 | _,_=>False
attribute [simp] Dt GH xN DY wR mF
section
variable {P:Program} {N:Nat} {st:St}
def gO.cE{f:FuncId}{args:List PV}{i sz:Nat}{p:PV}{j:List PV}{res:RV}{n np:Nat}{b:GC}{rs:List (Nat × Option Nat)}(t:aP P f=some ⟨n,np,b.er,rs⟩)(hn:args.length<=n)(hp:args[i]?=some p)(l:j.length=(mF p).length)
  (h:vm P n (Dt rs sz j (mF p).length res) [.code b] (xN args i sz p)):gO P f args i sz j res:=by
 obtain⟨ex,s,x,m⟩:=lL _ (dE _) h;have key:(ex=.ret\/ex=.normal)/\∃ vs,oF s rs=some vs/\s.obj bC 0=some ⟨sz,j.map .p⟩/\GH s (dD vs) (mF p).length res:=by
  change Dt rs sz j (mF p).length res ex s at m
  cases ex with
  | ret=>exact⟨.inl rfl,m⟩
  | normal=>exact⟨.inr rfl,m⟩
  | _=>exact m.elim
 obtain⟨u,vs,y,z,k⟩:=key;refine gO.gG t hn hp x u y z l ?_;unfold GH at k;split at k
 .exact .pure _ _ _ k.1 k.2
 .obtain⟨o,r⟩:=k;rw[o];exact .same _ _ r
 .exact k.elim
theorem qV{f:FuncId}{e:Nat}{vs:List AV}{args:List PV}{i sz:Nat}{b:List PV}{r:PV}{K:bJ->AV->St->Prop}(hs:gO P f args i sz b (.pure r))(C:vs.mapM (bH st bF)=some args)
  {s g h:Nat} {sl:Bool} (m:BH vs[i]?=some (s,g,h,sl)) {o:bI} (z:st.obj s g=some o) (x:i<vs.length) (y:h=o.es.length) (n:b.length=h) (u:o.sz=sz) (j:b.all (λv=>v.sz == sz)=true) (l:(b.flatMap PV.cells).all PV.one=true)
  (t:((vs.eraseIdx i).flatMap (aS st bF)++o.es.flatMap (aS st 5)).contains (s,g)=false)
  (k:K ⟨f,args,.pure r,some (i,sz,b)⟩ (.p r) ((if (r.nM&&b.all PV.flat)=true then st else aI st ((vs.eraseIdx i).flatMap (aS st bF)++o.es.flatMap (aS st 5))).setObj s g ⟨sz,b.map .p⟩)):vW P st e f vs K:=by
 refine⟨⟨f,args,.pure r,some (i,sz,b)⟩,hs,.p r,_,(IX (c:=⟨f,args,.pure r,some (i,sz,b)⟩) C).trans ?_,k⟩;simp only[zL,AG,m,z];rw[aX ⟨x,y,n,u,j,l,t⟩];rfl
theorem IV{f:FuncId}{e:Nat}{vs:List AV}{args:List PV}{i sz:Nat}{b:List PV}{l:Nat}{K:bJ->AV->St->Prop}(hs:gO P f args i sz b (.same l))(D:vs.mapM (bH st bF)=some args)
  {s g h:Nat} (n:BH vs[i]?=some (s,g,h,true)) {o:bI} (C:st.obj s g=some o) (y:i<vs.length) (z:h=o.es.length) (r:b.length=h) (x:o.sz=sz) (j:b.all (λv=>v.sz == sz)=true) (m:(b.flatMap PV.cells).all PV.one=true)
  (u:((vs.eraseIdx i).flatMap (aS st bF)++o.es.flatMap (aS st 5)).contains (s,g)=false) (t:l<=h)
  (k:K ⟨f,args,.same l,some (i,sz,b)⟩ (.own s g 0 l) ((if (true&&b.all PV.flat)=true then st else aI st ((vs.eraseIdx i).flatMap (aS st bF)++o.es.flatMap (aS st 5))).setObj s g ⟨sz,b.map .p⟩)):vW P st e f vs K:=by
 refine⟨⟨f,args,.same l,some (i,sz,b)⟩,hs,.own s g 0 l,_,(IX (c:=⟨f,args,.same l,some (i,sz,b)⟩) D).trans ?_,k⟩;simp only[zL,AG,n,C];rw[aX ⟨y,z,r,x,j,m,u⟩,aX ⟨t,trivial⟩];rfl
end
@[simp] theorem yke(st:St)(vs:List AV):aS st bF (.bM vs)=vs.flatMap (aS st 5):=rfl
def zK{P:Program}{N:Nat}{Q:Exit->St->Prop}{b:GC}{ks:List Kt}{st:St}
  (h:∀ R:Exit->St->Prop,(∀ s,vL P N Q b ks s->R .normal s)->(∀ s,Q .ret s->R .ret s)->(∀ id s,gA P N Q (fO id ks) id s->R (.exit id) s)->vm P N R [.code b] st):vL P N Q b ks st:=by
 obtain⟨ex,s,i,j⟩:=lL (P:=P) (N:=N) _ (dE _) (h (λex s=>(ex=.normal->vL P N Q b ks s)/\(ex ≠ .normal->eT P N Q ks ex s)) (λs h=>⟨λ_=>h,λh=>absurd rfl h⟩)
  (λs h=>⟨λh=>(by cases h),λ_=>zU h⟩) (λid s h=>⟨λh=>(by cases h),λ_=>Ia (by simp) h (.inr ⟨id,rfl⟩)⟩))
 by_cases f:ex=.normal
 .subst f;obtain⟨ex,m,k,l⟩:=j.1 rfl;exact⟨ex,m,.next _ _ _ _ i k,l⟩
 .exact⟨ex,s,.out _ _ _ i f,j.2 f⟩
section
variable {α : Type} [Enc α]
def cells_one(h:∀ x : α,(enc x).cells.all PV.one=true)(l:List α):((ens l).flatMap PV.cells).all PV.one=true:=by simp only[k8,kC];rintro c ⟨v,f,b⟩;obtain⟨x,_,rfl⟩:=cA.1 f;exact k8.1 (h x) c b
def yhd(l:List α)(k:Nat):(aK l)[k]?=(l[k]?).map λx=>.p (enc x):=by simp[-gW,aK,ens,EZ,Function.comp_def]
def jF(l:List α)(n:Nat)(h:Enc.sz α = n):(ens l).all (λv=>v.sz == n)=true:=by simp only[k8,beq_iff_eq];intro v b;rw[SX l v b,h]
end
section
variable {P:Program} {N:Nat} {st st1:St}
def aA.dV{t n:Nat}{v:PV}(h:st.get t=.p (.ref v))(hn:v.sz=n):aA st ⟨(t,.cp v n 0)::st.sl,st.hp⟩:=by
 intro K Z w a hs;have k:∀ s g,(⟨(t,.cp v n 0)::st.sl,st.hp⟩:St).obj s g=st.obj s g:=λ_ _=>rfl;have hz:cP Z st Z ⟨(t,.cp v n 0)::st.sl,st.hp⟩:=⟨λ_ _ h=>h,λ_=>dE _,λ_ _ _ h=>h,λ_ _ o h=>.inr ⟨o,h,rfl,rfl,rfl,rfl⟩⟩;refine⟨Z,⟨λf=>?_,hs.defers,hs.size,⟨λs g o y=>(hs.heap.bT s g o y).later hz rfl rfl (λ_ _=>rfl),hs.heap.inj,hs.heap.mem,hs.heap.sep,hs.heap.own,hs.heap.m0,hs.heap.eM,hs.heap.keep⟩⟩,cY.dW hz⟩;by_cases l:f=t
 .subst l;have j:=hs.aY f;rw[h]at j;have i:(⟨(f,.cp v n 0)::st.sl,st.hp⟩:St).get f=.cp v n 0:=by simp[St.get,look]
  rw[i];generalize a.tmps.getD f Go.undef=x at j;cases j.cF with
  | ref _ b o cur T fr vals m z r h3 u=>exact .cp v n 0 b o cur T fr vals m (by omega) hn r (aG.pq (Z:=Z) (st:=st) (aG.lZ h3)) u
 .have i:(⟨(t,.cp v n 0)::st.sl,st.hp⟩:St).get f=st.get f:=by simp[St.get,look,wJ l]
  rw[i];exact(hs.aY f).mono hz
def Sp.fD{f:FuncId}{args:List PV}{res:RV}{n np:Nat}{b:GC}{rs:List (Nat × Option Nat)}(r:aP P f=some ⟨n,np,b.er,rs⟩)(hn:args.length<=n)(t:aA (vy args) st1)(h:vm P n (iD rs res) [.code b] st1):Sp P f args res:=by
 obtain⟨ex,s,x,j⟩:=lL _ (dE _) h;have key:(ex=.ret\/ex=.normal)/\∃ vs,oF s rs=some vs/\kO s (dD vs) res:=by
  change iD rs res ex s at j
  cases ex with
  | ret=>exact⟨.inl rfl,j⟩
  | normal=>exact⟨.inr rfl,j⟩
  | _=>exact j.elim
 obtain⟨u,vs,y,i⟩:=key;refine Sp.gG r hn (cU.nK t x) u y ?_;unfold kO at i;split at i
 .exact .pure _ _ i
 .split at i
  .rename_i sz es s' g off len k;obtain⟨o,l,rfl,m,rfl,p⟩:=i;rw[k];exact .fresh _ _ _ _ _ l m p
  .rename_i k;rw[k,i];exact .nil _
  .exact i.elim
 .exact i.elim
end
mutual
def PV.cN:PV->Bool
 | .sl es=>jR es
 | .agg cs=>jR cs
 | .fn _ cs=>jR cs
 | .ref v=>v.cN
 | .bM vs=>jR vs
 | .mp _ _ _=>false
 | _=>true
def jR:List PV->Bool
 | []=>true
 | v::r=>v.cN&&jR r
end
theorem zZ:∀ {l:List PV},jR l=true ↔ ∀ v∈l,v.cN=true
 | []=>by simp[jR]
 | v::l=>by simp[jR,zZ (l:=l)]
def MD{v:PV}(h:v.cN=true):jR v.cells=true:=by cases v<;>simp_all[PV.cells,jR,PV.cN]
def U8{es:List PV}(h:jR es=true):jR (es.flatMap PV.cells)=true:=by rw[zZ]at h ⊢;intro c b;obtain⟨e,f,b⟩:=kC.1 b;exact zZ.1 (MD (h e f)) c b
mutual
theorem PRep.cN{M M':Nat->Option Obj}(i:∀ b cur T fr,M b=some (.cells cur T fr)->M' b=some (.cells cur T fr)):∀ {v:PV} {x:Value},PRep M v x->v.cN=true->PRep M' v x
 | _,_,.bool _,_=>.bool _
 | _,_,.int _ _,_=>.int _ _
 | _,_,.str _,_=>.str _
 | _,_,.aL,_=>.aL
 | _,_,.any _ h,_=>.any _ h
 | _,_,.nl _,_=>.nl _
 | _,_,.sle _ _,_=>.sle _ _
 | _,_,.fM _,_=>.fM _
 | _,_,.wZ _,_=>.wZ _
 | _,_,.mp _ _ _ _ _ _ _ _ _ _ _,hn=>by simp[PV.cN]at hn
 | _,_,.rB _ _,_=>.rB _ _
 | _,_,.sl es b o cap cur T fr sz vals k j l h3 m n p r,hn=>.sl es b o cap cur T fr sz vals (i _ _ _ _ k) j l h3 (PReps.cN i m (U8 (by simpa[PV.cN]using hn))) n p r
 | _,_,.agg cs vals j h,hn=>.agg cs vals j (PReps.cN i h (by simpa[PV.cN]using hn))
 | _,_,.fn f iF vals h,hn=>.fn f iF vals (PReps.cN i h (by simpa[PV.cN]using hn))
 | _,_,.ref v b o cur T fr vals k j l h3 m,hn=>.ref v b o cur T fr vals (i _ _ _ _ k) j l (PReps.cN i h3 (MD (by simpa[PV.cN]using hn))) m
 | _,_,.bM vs vals h,hn=>.bM vs vals (PReps.cN i h (by simpa[PV.cN]using hn))
theorem PReps.cN{M M':Nat->Option Obj}(f:∀ b cur T fr,M b=some (.cells cur T fr)->M' b=some (.cells cur T fr)):∀ {v:List PV} {x:List Value},PReps M v x->jR v=true->PReps M' v x
 | _,_,.nil,_=>.nil
 | _,_,.cons v x vs xs h hs,hn=>.cons _ _ _ _ (PRep.cN f h (by simp only[jR,jO]at hn;exact hn.1)) (PReps.cN f hs (by simp only[jR,jO]at hn;exact hn.2))
end
structure FA where
 r:Nat
 p:(Nat->Option Obj)->Option Obj->Prop
 mono:∀ M M' o,(∀ b x,M b=some x->M' b=some x)->p M o->p M' o
 fz:Bool:=false
 nb:Bool:=false
 Bl:Ctx->Cz->St->World->Prop:=λ_ _ _ _=>True
 Hc:∀ K Z st w Z' st' w',mN Z st w Z' st' w'->Bl K Z st w->Bl K Z' st' w':=by intros;trivial
def nN(A:Option FA)(K:Ctx)(Z:Cz)(st:St)(w:World):Prop :=
 match A with
 | none=>True
 | some A=>match A.nb with
  | true=>A.Bl K Z st w
  | false=>match A.fz with
  | true=>K.M0 A.r=none/\(K.X0 A.r\/K.w0.heap.size<=A.r)
  | false=>sv Z st w A.r/\(K.X0 A.r\/K.w0.heap.size<=A.r)/\A.p Z.M (w.heap[A.r]?)
section
variable {P:Program} {K:Ctx} {Z Z':Cz} {st st' st1 st2:St} {w w':World} {a:Act} {N:Nat} {ex:Exit} {A B:Option FA} {Post Cu:Exit->St->Option FA->Prop} {cC:St->Option FA->Prop}
theorem nN.later(h:nN A K Z st w)(hl:mN Z st w Z' st' w'):nN A K Z' st' w':=by
 cases A with
 | none=>trivial
 | some A =>
  unfold nN at h ⊢;simp only at h ⊢;cases hn:A.nb with
  | true=>rw[hn]at h;exact A.Hc _ _ _ _ _ _ _ hl h
  | false =>
  rw[hn]at h;simp only at h ⊢;cases hz:A.fz with
  | true=>rw[hz]at h;exact h
  | false =>
   rw[hz]at h;obtain⟨b,i,h3⟩:=h;obtain⟨j,k⟩:=hl.f _ b;refine⟨j,i,?_⟩;rw[k];exact A.mono _ _ _ hl.M h3
def aA.frame(h:aA st st')(hs:aN K Z st w a):∃ Z',aN K Z' st' w a/\mN Z st w Z' st' w:=by obtain⟨Z',b,f⟩:=h _ _ _ _ hs.root;exact⟨Z',hs.rO b,⟨b.heap.m0,λr i=>i.later b,f⟩⟩
def ql(P:Program)(N:Nat)(i:Ins)(st:St)(A:Option FA)(Post:St->Option FA->Prop):Prop :=
 ∀ (ops:Array Oper) (j:Nat) (o:Oper) (K:Ctx) (Z:Cz) (w:World) (a:Act) (Q:Exit->Act->World->Prop) (Kt:Act->World->Prop),K.N=N->ops[j]?=some o->xL P N ops o=some i->aN K Z st w a->nN A K Z st w ->
  (∀ st' b Z' w' f,Post st' b->aN K Z' st' w' f->nN b K Z' st' w'->Kt f w')->wpOp P ops Q j Kt a w
def eC(P:Program)(N:Nat):List Ins->St->Option FA->(St->Option FA->Prop)->Prop
 | [],st,A,Post=>∃ st1,aA st st1/\Post st1 A
 | i::b,st,A,Post=>ql P N i st A λs B=>eC P N b s B Post
def MR(P:Program)(N:Nat)(ac:AC)(st:St)(A:Option FA)(Post:Exit->St->Option FA->Prop):Prop :=
 ∀ b,comp P N b=some ac->∀ (K:Ctx) (Z:Cz) (w:World) (a:Act) (Q:Exit->Act->World->Prop),K.N=N->aN K Z st w a->nN A K Z st w ->
  (∀ ex st' f Z' w' h,Post ex st' f->aN K Z' st' w' h->nN f K Z' st' w'->Q ex h w')->b.wp P Q a w
theorem ql.nat{orc:Option bJ}{i:Ins}(f:xH P orc)(p:exec orc st i=some st')(k:cC st' A):ql P N i st A cC:=by intro ops j o K Z w a Q Kt m s n hs h l;subst m;refine HD (K:=⟨w,Z.M,lH Z st,K.N⟩) s n hs.root f p λZ' w' u b hp=>?_;exact l _ _ _ _ _ k (hs.rO b) (h.later ⟨b.heap.m0,λr t=>t.later b,hp⟩)
theorem ql.eE{i:Ins}(h:aA st st1)(k:ql P N i st1 A cC):ql P N i st A cC:=by intro ops j o K Z w a Q Kt n r p hs l m;obtain⟨Z',b,f⟩:=h.frame hs;exact k ops j o K Z' w a Q Kt n r p b (l.later f) m
theorem eC.run{is b:List Ins}{fs:List FP}(h:rK P is fs st st')(k:eC P N b st' A cC):eC P N (is++b) st A cC:=by
 induction h with
 | nil=>exact k
 | cons orc i is f fs st s1 st' j l n h3 m=>exact .nat j l (m k)
theorem MR.eE{ac:AC}(h:aA st st1)(k:MR P N ac st1 A Post):MR P N ac st A Post:=by intro code m K Z w a Q j hs i l;obtain⟨Z',b,f⟩:=h.frame hs;exact k code m K Z' w a Q j b (i.later f) l
theorem MR.gG{ac:AC}(h:cU P N ac st ex st')(k:Post ex st' A):MR P N ac st A Post:=by intro code l K Z w a Q i hs f j;exact h.frame l i hs λZ' w' m b _ hl=>j _ _ _ _ _ _ k b (f.later hl)
def MR.cE{b:GC}(h:vm P N (λex s=>Post ex s A) [.code b] st):MR P N b.er st A Post:=by obtain⟨ex,s,f,i⟩:=lL _ (dE _) h;exact .gG f i
theorem MR.mono{ac:AC}(h:MR P N ac st A Post)(k:∀ ex s B,Post ex s B->Cu ex s B):MR P N ac st A Cu :=
 λcode l K Z w a Q i hs f j=>h code l K Z w a Q i hs f λex st' A' Z' w' b hp=>j ex st' A' Z' w' b (k _ _ _ hp)
theorem MR.seq{x y:AC}(h:MR P N x st A λex s B=>(ex=.normal->MR P N y s B Post)/\(ex ≠ .normal->Post ex s B)):MR P N (.seq x y) st A Post:=by
 intro code r K Z w a Q i hs p j;obtain⟨l,m,rfl,n,o⟩:=K0 r;refine wp_seq (h l n K Z w a _ i hs p λex st' A' Z' w' k hp f b=>?_);cases ex with
 | normal=>exact hp.1 rfl m o K Z' w' k Q i f b j
 | _=>exact j _ _ _ _ _ _ (hp.2 (by simp)) f b
theorem MR.cond{x y:AC}{c:bP}{t:Bool}(u:st.ev c=.p (.bool t))(h:MR P N (if t then x else y) st A Post):MR P N (.cond c x y) st A Post:=by
 intro code s K Z w a Q f hs b i;obtain⟨o,k,l,rfl,m,n,r⟩:=Td s;have j:=fH m hs;rw[u]at j;refine wp_cond j.fT ?_;cases t with
 | true=>exact h k n K Z w a Q f hs b i
 | false=>exact h l r K Z w a Q f hs b i
def Ot(id:Nat):Exit->Exit
 | .exit j=>if j=id then .normal else .exit j
 | e=>e
theorem MR.bX{x:AC}{id:Nat}(h:MR P N x st A λex s B=>Post (Ot id ex) s B):MR P N (.bX id x) st A Post:=by
 intro code o K Z w a Q m hs l n;obtain⟨b,rfl,k⟩:=HG o;refine wp_block (h b k K Z w a _ m hs l λex st' A' Z' w' r hp i f=>?_);have hq:=n _ _ _ _ _ _ hp i f;cases ex with
 | exit j=>by_cases p:j=id<;>simp only[Ot,p,cH,fQ,Exit.inBlock]at hq ⊢ <;> exact hq
 | _=>exact hq
def MR.ext{id:Nat}(h:Post (.exit id) st A):MR P N (.ext id) st A Post:=.gG .ext h
def MR.js(h:Post .normal st A):MR P N .js st A Post:=.gG .js h
theorem MR.cX{is:List Ins}(h:eC P N is st A λs B=>Post .normal s B):MR P N (.cX is) st A Post:=by
 intro code b K Z w a Q I hs n J;cases code<;>simp only[comp]at b
 case region id ops m =>
  split at b
  .split at b
   .obtain⟨l,_,f⟩:=cO b;cases f
   .cases b
  .rename_i hd;obtain⟨l,y,f⟩:=cO b;cases f;have:m=false:=by simpa using hd
   subst this;refine wp_region ?_;subst I;obtain⟨hl,hi⟩:=C4 y
   have key:∀ (is:List Ins) (R:List Nat),R.length=is.length->(∀ (k x:Nat) (i:Ins),R[k]?=some x->is[k]?=some i->∃ o,ops[x]?=some o/\xL P K.N ops o=some i)->∀ (st:St) (A:Option FA) (Z:Cz) (w:World) (a:Act),
     eC P K.N is st A (λs B=>Post .normal s B)->aN K Z st w a->nN A K Z st w->wpOps P ops Q R a w:=by
    intro is
    induction is with
    | nil=>intro R t _ st A Z w a h hs n;cases R with
     | nil =>
      obtain⟨st1,L,hp⟩:=h;obtain⟨Z',y,f⟩:=L.frame hs;exact J _ _ _ _ _ _ hp y (n.later f)
     | cons _ _=>simp at t
    | cons i is M=>intro R t G st A Z w a h hs n;cases R with
     | nil=>simp at t
     | cons x R =>
      obtain⟨o,u,r⟩:=G 0 x i rfl rfl;rw[wpOps_cons];exact h ops x o K Z w a Q _ rfl u r hs n λst' A' Z' w' H hp F z=>M R (by simpa using t) (λk x i D hi=>G (k+1) x i (by simpa using D) (by simpa using hi)) st' A' Z' w' H hp F z
   refine key is (List.range ops.size) (by rw[hl];simp) (λk x i D C=>?_) st A Z w a h hs n;have E:=iU.1 D;obtain⟨j,p⟩:=E;simp at j p;subst p;obtain⟨x,u,r⟩:=hi k ops[k] (by simp[j]);rw[C]at r;cases r;exact⟨ops[k],by simp[j],u⟩
 all_goals (first|cases b|(split at b<;>cases b)|(obtain⟨_,_,f⟩:=cO b;cases f))
theorem eC.vm{is b:List Ins}{dead:List (List Nat)}(h:vm P N (λex s=>ex=.normal->eC P N b s A cC) [.ins is dead] st):eC P N (is++b) st A cC:=by
 obtain⟨gs,s1,o,i,f,k⟩:=lL _ (dE _) h;refine .run i ?_;have:=k rfl;cases b with
 | nil =>
  obtain⟨l,m,n⟩:=this;exact⟨l,f.trans m,n⟩
 | cons j b=>exact ql.eE f this
theorem MR.ts{c:Code}{x:AC}(C:comp P N c=some x){I:Nat->St->Option FA->Prop}(step:∀ n st A,I n st A->MR P N x st A λex s B=>(ex=.normal->∃ m,m<n/\I m s B)/\(ex ≠ .normal->Post ex s B))(y:K.N=N) :
  ∀ (n l:Nat),l<n->∀ {st:St} {A:Option FA},I l st A->∀ {Z:Cz} {w:World} {a:Act} {Q:Exit->Act->World->Prop},aN K Z st w a->nN A K Z st w->(∀ ex st' A' Z' w' f,Post ex st' A'->aN K Z' st' w' f->nN A' K Z' st' w'->Q ex f w') ->
  ∀ (b:Frame) (k:List Go.Item) (cs:List Frame),∃ e f w',Q e f w'/\Arrives P (lone (b.at a (.code c::.inLoop c::k)) cs w) b k cs e f w'
 | 0,_,h,_,_,_=>absurd h (Nat.not_lt_zero _)
 | n+1,l,hn,st,A,L=>by
  intro hs J z b k cs;rename_i Z w a Q;obtain⟨e,a1,w1,⟨s1,B,M,D,E,F⟩,i⟩:=step l st A L c C K Z w a (λe f w'=>∃ s B Z',((e=.normal->∃ m,m<l/\I m s B)/\(e ≠ .normal->Post e s B))/\aN K Z' s w' f/\nN B K Z' s w') y hs J (λex st' A' Z' w' f hp u o=>⟨st',A',Z',hp,u,o⟩) b (.inLoop c::k) cs;by_cases r:e=.normal
  .subst r;obtain⟨m,hm,p⟩:=D.1 rfl;obtain⟨H,G,w2,t,j⟩:=MR.ts C step y n m (by omega) p E F z b k cs;exact⟨H,G,w2,t,.of_steps (Steps.trans i (.one step_inLoop)) j⟩
  .exact⟨e,a1,w1,z _ _ _ _ _ _ (D.2 r) E F,.pass (x:=.inLoop c) rfl (λ_ _=>.inl r) i⟩
theorem MR.loop{x:AC}{I:Nat->St->Option FA->Prop}(n:Nat)(l:I n st A)(step:∀ n st A,I n st A->MR P N x st A λex s B=>(ex=.normal->∃ m,m<n/\I m s B)/\(ex ≠ .normal->Post ex s B)):MR P N (.loop x) st A Post:=by intro code r K Z w a Q o hs j p;obtain⟨c,rfl,i⟩:=Ty r;intro b k cs;obtain⟨e,h,w',hq,f⟩:=MR.ts i step o (n+1) n (Nat.lt_succ_self _) l hs j p b k cs;exact⟨e,h,w',hq,.of_steps (.one step_loop) f⟩
end
section
variable {P:Program} {K:Ctx} {Z Z':Cz} {st st' st1 st2:St} {w w':World} {a:Act} {N:Nat} {ex:Exit} {A B:Option FA} {cC:St->Option FA->Prop}
def V0{c:Callee}{b:Array TypeId}{as:List bP}{r:Op}(h:B4 P c b as=some (.raw r)):False:=by
 unfold B4 at h
 repeat' split at h
 all_goals first
  | cases h
  | (obtain⟨_,_,h⟩:=cO h;cases h)
def mU{α : Type}{x:Option α}{f : α -> Option c7}{r:Op}(h:x.bind f=some (.raw r))(k:∀ y,f y≠some (.raw r)):False:=by obtain⟨y,_,h⟩:=lv h;exact k y h
def uC{α : Type}{x:Option α}{f : α -> c7}{r:Op}(h:x.map f=some (.raw r))(k:∀ y,f y ≠ .raw r):False:=by obtain⟨y,_,h⟩:=cO h;exact k y h
def Vm{t:TypeId}{m k:Operand}{c:Bool}{r:Op}(h:CP P t m k c=some (.raw r)):False:=by
 unfold CP at h
 repeat' split at h
 all_goals first
  | exact mU h λ_ h=>mU h λ_ h=>mU h λ_ h=>uC h λ_ h=>by cases h
  | cases h
def VK{t:TypeId}{x:Operand}{f b mx:Option Operand}{r:Op}(h:El P t x f b mx=some (.raw r)):False:=by
 unfold El at h
 repeat' split at h
 all_goals first
  | exact mU h λ_ h=>mU h λ_ h=>uC h λ_ h=>by cases h
  | cases h
def UZ{b:BinOp}{x y:bP}{r:Op}(h:CD b x y=some (.raw r)):False:=by
 unfold CD at h
 repeat' split at h
 all_goals cases h
def Vo{b:Fn}{x y:Array Operand}{r:Op}(h:Ej b x y=some (.raw r)):False:=by
 unfold Ej at h
 repeat' split at h
 all_goals first
  | exact uC h λ_ h=>by cases h
  | cases h
def Qr{b r:Op}(h:oD P b=some (.raw r)):b=r:=by
 cases b
 case call c=>exact(mU h λ_ h=>V0 h).elim
 case makeMap|mapUpdate|range|next|entry=>simp only[oD,cD,c7.raw.injEq]at h;exact h
 case lookup t m k c=>exact(Vm h).elim
 case slice=>exact(VK h).elim
 case makeFunc=>exact(Vo h).elim
 case move|assign|alloc|box|nilCheck|extract=>exact(uC h λ_ h=>by cases h).elim
 case pick=>exact(mU h λ_ h=>mU h λ_ h=>uC h λ_ h=>by cases h).elim
 case binOp =>
  refine(mU h λ_ h=>mU h λ_ h=>?_).elim;split at h
  .cases h
  .cases h
  .exact UZ h
  .exact uC h λ_ h=>by cases h
 case unOp =>
  refine(mU h λ_ h=>?_).elim;split at h<;>cases h
 case convert =>
  refine(mU h λ_ h=>?_).elim;split at h<;>cases h
 case load=>refine(mU h λ_ h=>?_).elim;split at h<;>cases h
 case store=>refine(mU h λ_ h=>mU h λ_ h=>?_).elim;split at h<;>cases h
 case build =>
  simp only[oD]at h;split at h
  .refine(mU h λ_ h=>mU h λ_ h=>?_).elim;split at h
   .exact uC h λ_ h=>by cases h
   .cases h
  .refine(mU h λ_ h=>mU h λ_ h=>?_).elim;split at h
   .exact uC h λ_ h=>by cases h
   .cases h
  .cases h
 case buildSlice =>
  simp only[oD]at h;split at h
  .exact(mU h λ_ h=>uC h λ_ h=>by cases h).elim
  .cases h
 case makeSlice =>
  simp only[oD]at h;split at h
  .refine(mU h λ_ h=>mU h λ_ h=>mU h λ_ h=>?_).elim;split at h<;>cases h
  .cases h
 case fieldAddr =>
  simp only[oD]at h;split at h
  .split at h
   .split at h
    .exact(uC h λ_ h=>by cases h).elim
    .cases h
   .cases h
  .cases h
 case field =>
  simp only[oD]at h;split at h
  .split at h
   .split at h
    .exact(uC h λ_ h=>by cases h).elim
    .cases h
   .cases h
  .cases h
 case indexAddr =>
  simp only[oD]at h;split at h
  .split at h
   .exact(mU h λ_ h=>uC h λ_ h=>by cases h).elim
   .cases h
  .split at h
   .exact(mU h λ_ h=>uC h λ_ h=>by cases h).elim
   .cases h
  .cases h
 case index =>
  simp only[oD]at h;split at h
  .split at h
   .exact(mU h λ_ h=>uC h λ_ h=>by cases h).elim
   .cases h
  .exact(mU h λ_ h=>uC h λ_ h=>by cases h).elim
  .cases h
 all_goals cases h
def nN.site(h:nN A K Z st w)(hs:∀ s,st'.site s=st.site s):nN A K Z st' w:=by refine h.later ⟨λ_ _ h=>h,λr b=>⟨⟨b.m,λs g o f=>b.o s g o (by rw[<- f];exact(fB (hs s)).symm),b.lt⟩,rfl⟩,.dW (sC hs _)⟩
def ql.raw{d:Option Nat}{op:Op} (h:∀ (K:Ctx) (Z:Cz) (w:World) (a:Act),K.N=N->aN K Z st w a->nN A K Z st w->∀ o:Oper,o.op=op ->
  ∃ nx y w' v A' Z',(execOp a.eval o).run P w=.ok nx w'/\(nx=.value y\/(nx=.skip/\y=Go.undef))/\aQ Z' st v y/\bG K Z' st w'/\cP Z st Z' st/\nN A' K Z' st w'/\cC (st.put d v) A'):ql P N ⟨d,.raw op,none⟩ st A cC:=by
 intro ops j o K Z w a Q Kt m H G hs E F;obtain⟨C,f,h3,D⟩:=EE G;have l:o.op=op:=Qr C;obtain⟨nx,y,w',v,A',Z',n,p,r,t,u,x,z⟩:=h K Z w a m hs E o l;have k:o.guard=none:=by
  cases k:o.guard with
  | none=>rfl
  | some J =>
   obtain⟨j,b⟩:=J;rw[k]at f;simp only[A3]at f;split at f<;>cases f
 have I:Region.wanted o (yielded ops a.tmps)=true:=by simp[Region.wanted,k]
 have i:d=o.dst:=h3;have fin:Kt (a.put o.dst y) w':=by refine F _ _ _ _ _ z (?_:aN K Z' (st.put d v) w' _) (x.site λs=>pT st d v s);rw[i];exact hs.put rfl u t r (by subst m;exact D) hs.defers
 unfold wpOp;simp only[H,I,cH];refine .inl ?_;unfold Oper.wp;rw[n];obtain rfl|⟨rfl,rfl⟩:=p
 .exact fin
 .exact fin
end
section
variable {P:Program} {K:Ctx} {Z Z':Cz} {st st' st1 st2:St} {w w':World} {a:Act} {N:Nat} {ex:Exit} {A B:Option FA} {cC:St->Option FA->Prop}
theorem PReps.get'{M:Nat->Option Obj}:∀ {vs:List PV} {xs:List Value},PReps M vs xs->∀ (i:Nat) (x:Value),xs[i]?=some x->∃ v,vs[i]?=some v/\PRep M v x
 | _,_,.nil,i,x,h=>by simp at h
 | _,_,.cons u y _ _ h _,0,x,e=>by simp at e;subst e;exact⟨u,by simp,h⟩
 | _,_,.cons _ _ _ _ _ hs,i+1,x,e=>by simp at e;simpa using PReps.get' hs i x e
def bG.world{X:Nat->Prop}(h:bG K Z st w)(k:Keep w w' X)(n:∀ b,X b->Z.M b=none/\(∀ s g o,st.obj s g=some o->Z.B s g≠some b)/\(K.X0 b\/K.w0.heap.size<=b)):bG K Z st w':=by
 have i:∀ b o,w.heap[b]?=some o->¬ X b->w'.heap[b]?=some o:=λb o f j=>by rw[k.bX b (sH.1 f).1 j];exact f
 refine⟨λs g o r=>?_,h.inj,λb o f=>i b o (h.mem b o f) λj=>?_,h.sep,h.own,h.m0,h.eM,?_⟩
 .have m:=h.bT s g o r;refine⟨m.pos,m.iI,m.one,m.x5,λb f=>?_⟩;obtain⟨cur,T,vals,t,u⟩:=m.bX b f;exact⟨cur,T,vals,i b _ t λj=>(n b j).2.1 s g o r f,u⟩
 .have:=(n b j).1;rw[f]at this;cases this
 .have l:=h.keep;refine⟨k.os.trans l.os,k.tape.trans l.tape,k.output.trans l.output,dM l.drawn k.drawn,dM l.size k.size,λb f j=>?_⟩;rw[k.bX b (iL f l.size) λp=>by
   obtain h|h:=(n b p).2.2
   .exact j h
   .omega]
  exact l.bX b f j
def Qy(w:World)(o:Obj):Keep w (w.alloc o) λ_=>False :=
 ⟨rfl,rfl,rfl,dE _,by show w.heap.size<=(w.heap.push o).size;simp,λb f _=>by show(w.heap.push o)[b]?=_;rw[Array.getElem?_push_lt f,Array.getElem?_eq_getElem f]⟩
def Lq(w:World)(r:Nat)(o:Obj):Keep w (ChangeMaps.setBlock w r o) λb=>b=r :=
 ⟨rfl,rfl,rfl,dE _,by show w.heap.size<=(w.heap.setIfInBounds r o).size;simp,λb _ f=>by show(w.heap.setIfInBounds r o)[b]?=_;simp[wJ f]⟩
def Xp(w:World):Keep w w.drew λ_=>False:=⟨rfl,rfl,rfl,Nat.le_succ _,dE _,λ_ _ _=>rfl⟩
def sN(r:Nat)(ks vs:List PV):FA:=⟨r,λM o=>∃ f b,o=some (.map f b)/\EN M ks vs f b,by
 rintro M n o i ⟨f,b,j,k,l,m⟩;exact⟨f,b,j,k.mono i,l.mono i,m⟩,false,false,λ_ _ _ _=>True,λ_ _ _ _ _ _ _ _ h=>h⟩
def n'(r l:Nat)(ks vs:List PV)(L:List Nat)(cur:Option Nat):FA:=⟨r,λM o=>∃ i b seen,M l=some (.map i b)/\EN M ks vs i b/\o=some (.mapIter (some l) b seen b) /\
  (∀ j e,i.toList[j]?=some e->(j∈L ↔ e.born∉seen))/\(∀ j∈L,j<ks.length)/\(∀ j,cur=some j->∃ (e:MapEntry) (f:Array Nat),i.toList[j]?=some e/\seen=f.push e.born),by
 rintro M u o k ⟨i,b,seen,m,⟨n,p,s⟩,t⟩;exact⟨i,b,seen,k _ _ m,⟨n.mono k,p.mono k,s⟩,t⟩,false,false,λ_ _ _ _=>True,λ_ _ _ _ _ _ _ _ h=>h⟩
theorem I4{d:Option Nat}{t:TypeId}(k:∀ r,cC (st.put d (.p (.fM r))) (some (sN r [] []))):ql P N ⟨d,.raw (.makeMap t none),none⟩ st none cC:=by
 refine .raw λK Z w a C j z o l=>?_;have i:(Instr.makeMap t none).run P w=.ok (.map (some w.heap.size)) (w.alloc (.map #[] 0)):=by simp[Instr.makeMap,Result.andThen]
 refine⟨.value (.map (some w.heap.size)),.map (some w.heap.size),w.alloc (.map #[] 0),.p (.fM w.heap.size),some (sN w.heap.size [] []),Z,by simp[execOp,l,i,Result.andThen],.inl rfl,.p _ _ (.fM _),j.heap.world (Qy w _) (λ_ h=>h.elim),cP.refl Z st,?_,k _⟩;have f:∀ b o,w.heap[b]?=some o->b<w.heap.size:=λb o h=>(sH.1 h).1;refine⟨⟨?_,λs g o l u=>?_,by show w.heap.size<(w.heap.push _).size;simp⟩,.inr j.heap.keep.size,#[],0,(MapKept.heap_alloc w _).1,.nil,.nil,by simp,by simp,by simp⟩
 .show Z.M w.heap.size=none;cases x:Z.M w.heap.size with
  | none=>rfl
  | some o=>have:=f _ _ (j.heap.mem _ _ x);omega
 .obtain⟨n,T,m,y,_⟩:=(j.heap.bT s g o l).bX _ u;have:w.heap.size<w.heap.size:=f _ _ y;omega
theorem z59{d:Option Nat}{t kt F:TypeId}{x y:Nat}{ks vs:List PV}(S:P.underlying t=some (.map kt F))(U:st.get x=.p (.mp y ks vs))(k:∀ r,cC (st.put d (.p (.wZ r))) (some (n' r y ks vs (List.range ks.length) none))) :
  ql P N ⟨d,.raw (.range t (.tmp x)),none⟩ st none cC:=by
 refine .raw λK Z w a hN l hA o E=>?_;have i:=l.aY x;rw[U]at i;have m:a.eval (.tmp x)=a.tmps.getD x Go.undef:=rfl;generalize a.tmps.getD x Go.undef=X at i m;cases i.cF with
 | mp _ _ _ z f G H W m3 m4 m5 =>
  have C:=l.heap.mem _ _ G;have u:=run_range_map (P:=P) w t kt F y z f S C;refine⟨.value (.pointer (some ⟨w.heap.size,0,none⟩)),.pointer (some ⟨w.heap.size,0,none⟩),w.alloc (.mapIter (some y) f #[] f),.p (.wZ w.heap.size),some (n' w.heap.size y ks vs (List.range ks.length) none),Z,by simp[execOp,E,m,u,Result.andThen],.inl rfl,.p _ _ (.wZ _),l.heap.world (Qy w _) (λ_ h=>h.elim),cP.refl Z st,?_,k _⟩;have n:∀ b o,w.heap[b]?=some o->b<w.heap.size:=λb o h=>(Array.getElem?_eq_some_iff.1 h).1;have D:ks.length=z.toList.length:=by have:=H.length;simpa using this.symm
  refine⟨⟨?_,λs g o E C=>?_,by show w.heap.size<(w.heap.push _).size;simp⟩,.inr l.heap.keep.size,z,f,#[],G,⟨H,W,m3,m4,m5⟩,(MapKept.heap_alloc w _).1,λj e L=>?_,λj O=>by simpa using O,by simp⟩
  .show Z.M w.heap.size=none;cases R:Z.M w.heap.size with
   | none=>rfl
   | some o=>have:=n _ _ (l.heap.mem _ _ R);omega
  .obtain⟨J,T,I,V,_⟩:=(l.heap.bT s g o E).bX _ C;have:w.heap.size<w.heap.size:=n _ _ V;omega
  .have:=(List.getElem?_eq_some_iff.1 L).1;simp[D];simpa using this
theorem ybc{d:Option Nat}{x r D:Nat}{ks vs:List PV}{L:List Nat}{cur:Option Nat}(hx:st.get x=.p (.wZ r))
  (k0:L=[]->cC (st.put d (.p (.bM [.bool false]))) (some (n' r D ks vs L cur)))
  (k1:∀ j∈L,∀ I J,ks[j]?=some I->vs[j]?=some J->cC (st.put d (.p (.bM [.bool true,I,J]))) (some (n' r D ks vs (L.filter λi=>i≠j) (some j)))) :
  ql P N ⟨d,.raw (.next (.tmp x) false),none⟩ st (some (n' r D ks vs L cur)) cC:=by
 refine .raw λK Z w a hN S hA o ho=>?_;have C:=S.aY x;rw[hx]at C;have u:a.eval (.tmp x)=a.tmps.getD x Go.undef:=rfl;generalize a.tmps.getD x Go.undef=X at C u;cases C.cF;obtain⟨t,R,k,f,seen,m0,⟨U,m2,m3,m4,m5⟩,hr,O,V,h3⟩:=hA;simp only[n']at t R hr;have W:=S.heap.mem _ _ m0;obtain⟨e1,M⟩|⟨e,he,w1,M,e3⟩:=run_next_at (P:=P) w o.type r D f f seen k f hr W m4 (dE _)
 .have hL:L=[]:=by
   cases L with
   | nil=>rfl
   | cons j L =>
    exfalso;have y:=V j (by simp);have ao:ks.length=k.toList.length:=by have:=U.length;simpa using this.symm
    have F:j<k.toList.length:=by omega
    have ag:=(O j k.toList[j] (List.getElem?_eq_getElem F)).1 (by simp);have:k.toList[j]∈(leftOf k seen).toList:=by simp only[leftOf,Array.toList_filter,List.mem_filter];exact⟨List.getElem_mem F,by simpa using ag⟩
    have h0:(leftOf k seen).toList.length=0:=by simpa using e1
    rw[List.length_eq_zero_iff.1 h0]at this;cases this
  exact⟨.value (.tuple #[.bool false]),.tuple #[.bool false],w,.p (.bM [.bool false]),some (n' r D ks vs L cur),Z,by simp[execOp,ho,u,M,Result.andThen],.inl rfl,.p _ _ (.bM _ _ (.cons _ _ _ _ (.bool _) .nil)),S.heap,cP.refl Z st,⟨t,R,k,f,seen,m0,⟨U,m2,m3,m4,m5⟩,hr,O,V,h3⟩,k0 hL⟩
 .have n:e∈k.toList/\e.born∉seen:=by simp only[leftOf,Array.toList_filter,List.mem_filter]at he;exact⟨he.1,by simpa using he.2⟩
  obtain⟨j,y⟩:=List.getElem?_of_mem n.1;have af:j∈L:=(O j e y).2 n.2;obtain⟨I,g1,g2⟩:=U.get' j e.key (by simp[y]);obtain⟨J,g3,g4⟩:=m2.get' j e.val (by simp[y]);have al:Keep w w1 λ_=>False:=by obtain rfl|rfl:=M;exact Keep.refl _ _;exact Xp w
  have s:r<w.heap.size:=t.lt
  have hH:bG K Z st (ChangeMaps.setBlock w1 r (.mapIter (some D) f (seen.push e.born) f)) :=
   (S.heap.world al λ_ h=>h.elim).world (Lq w1 r _) λb W=>by subst W;exact⟨t.m,t.o,R⟩
  have H:w1.heap.size=w.heap.size:=by obtain rfl|rfl:=M<;>rfl
  refine⟨.value (.tuple #[.bool true,e.key,e.val]),.tuple #[.bool true,e.key,e.val],_,.p (.bM [.bool true,I,J]),some (n' r D ks vs (L.filter λi=>i≠j) (some j)),Z,by simp[execOp,ho,u,e3,Result.andThen],.inl rfl,.p _ _ (.bM _ [.bool true,e.key,e.val] (.cons _ _ _ _ (.bool _) (.cons _ _ _ _ g2 (.cons _ _ _ _ g4 .nil)))),hH,cP.refl Z st,?_,k1 j af I J g1 g3⟩;refine⟨⟨t.m,t.o,?_⟩,R,k,f,seen.push e.born,m0,⟨U,m2,m3,m4,m5⟩,?_,λi e' l=>?_,λi hi=>V i (kI.1 hi).1,λi hi=>?_⟩
  .show r<(w1.heap.setIfInBounds r _).size;simp[H];exact s
  .show(w1.heap.setIfInBounds r _)[r]?=_;rw[TN];simp[H,s]
  .rw[kI,O i e' l];simp only[Array.mem_push,not_or,decide_eq_true_eq];have E:e'.born≠e.born ↔ i≠j:=by
    constructor
    .rintro h rfl;rw[y]at l;cases l;exact h rfl
    .intro h ad;refine h ?_;have l1:=(List.getElem?_eq_some_iff.1 l);have l2:=(List.getElem?_eq_some_iff.1 y);obtain⟨l1,q1⟩:=l1;obtain⟨l2,q2⟩:=l2;have G:i<(k.toList.map (·.born)).length:=by simpa using l1
     have z:j<(k.toList.map (·.born)).length:=by simpa using l2
     exact(List.getElem_inj (h₀ := G) (h₁ := z) m5).1 (by simp only[Ce,q1,q2,ad])
   exact and_congr_right λ_=>E.symm
  .cases hi;exact⟨e,seen,y,rfl⟩
theorem XB{d:Option Nat}{x r u:Nat}{ks vs:List PV}{L:List Nat}{j:Nat}{t y:PV}(V:st.get x=.p (.wZ r))(R:ks[j]?=some t)(U:vs[j]?=some y)
  (k:cC (st.put d (.p (.bM [t,y]))) (some (n' r u ks vs L (some j)))) :
  ql P N ⟨d,.raw (.entry (.tmp x)),none⟩ st (some (n' r u ks vs L (some j))) cC:=by
 refine .raw λK Z w a hN s D o S=>?_;have f:=s.aY x;rw[V]at f;have i:a.eval (.tmp x)=a.tmps.getD x Go.undef:=rfl;generalize a.tmps.getD x Go.undef=X at f i;cases f.cF;have m:=D;obtain⟨J,M,F,b,seen,m0,⟨m1,m2,m3,m4,m5⟩,E,h1,h2,I⟩:=D;simp only[n']at J M E;have O:=s.heap.mem _ _ m0;obtain⟨e,h,n,rfl⟩:=I j rfl;have l:=run_entry_at (P:=P) w r u b h F b e E O (wM n) m5;obtain⟨W,z,G⟩:=m1.get' j e.key (by simp[n]);obtain⟨ad,C,H⟩:=m2.get' j e.val (by simp[n]);rw[R]at z;cases z;rw[U]at C;cases C;exact⟨.value (.tuple #[e.key,e.val]),.tuple #[e.key,e.val],w,.p (.bM [t,y]),_,Z,by simp[execOp,S,i,l,Result.andThen],.inl rfl,.p _ _ (.bM _ [e.key,e.val] (.cons _ _ _ _ G (.cons _ _ _ _ H .nil))),s.heap,cP.refl Z st,m,k⟩
end
section
variable {P:Program} {K:Ctx} {Z Z':Cz} {st st' st1 st2:St} {w w':World} {a:Act} {N:Nat} {ex:Exit} {A B:Option FA} {Post:Exit->St->Option FA->Prop} {ops:Array Oper} {Q:Exit->Act->World->Prop}
theorem QU{md:Region.Mode}{it:Nat->Item}{pre:Nat->List Nat}{G:Nat}(F:∀ x o,ops[x]?=some o->∀ y∈pre x,xF ops y x)
  (hc:∀ i,i<ops.size->∃ o,ops[i]?=some o/\xL P K.N ops o=some (it i).1.2/\xH P (it i).1.1) {L:List Nat} (u:oZ md ops L []=true) (br:ops.size=G+1) (p:∀ y,y<G->xF ops y G) :
  ∀ (n:Nat) (R:List Nat) {b:Array Bool} {st st':St} {Z:Cz} {w:World} {a:Act},R.length=n->R.Nodup->b.size=ops.size->(∀ y z,b.getD z false=true->xF ops y z->b.getD y false=true)->(∀ i,i∈R ↔ i<G/\b.getD i true=false)->b.getD G true=false ->
   R.Pairwise (λy x=>y∈pre x\/yb (it y).2 (it x).2=true)->fX (R.map it) st st'->aN K Z st w a ->
   (∀ Z' w' a',aN K Z' st' w' a'->cY Z st Z' st'->wpOp P ops Q G (λa w=>Q .normal a w) a' w')->wpAny P md ops Q (n+1) b a w
 | n,R,b,st,st',Z,w,a,hn,bt,t,ad,hR,al,aq,s,hs,hQ=>by
  have J:∀ {i:Nat} {o:Oper},ops[i]?=some o->(∀ e∈o.after,Region.binds md e=true->b.getD e.on false=true)->∀ y,xF ops y i->b.getD y false=true:=by
   intro i o U h3 y C;have gd:∀ e∈o.after,Region.binds .any e=true->b.getD e.on false=true:=λe he hb=>h3 e he (Pn hb);cases C with
   | one S k2 W k4=>rw[U]at S;cases S;rw[<- W];exact gd _ k2 k4
   | more k0 S k2 W k4=>rw[U]at S;cases S;exact ad _ _ (by rw[<- W];exact gd _ k2 k4) k0
  have E:∀ y,b.getD y true=false->b.getD y false=true->False:=by
   intro y h5 I;obtain H|H:=pW y b.size
   .simp[H]at I h5;rw[I]at h5;cases h5
   .simp[E1 H]at I
  refine⟨λhr=>?_,λi hi=>?_⟩
  .exact absurd hr (ML L [] t u (by simp) ⟨G,by omega,al⟩)
  .obtain⟨h1,o,U,h3⟩:=mem_ready.1 hi;have bb:∀ e∈o.after,Region.binds md e=true->b.getD e.on false=true:=by
    intro e he hb;have I:=h3 e he hb;obtain H|H:=pW e.on b.size
    .simp[H]at I ⊢;exact I
    .simp[E1 H]at I
   have l:=J U bb;have m:=(sH.1 U).1;by_cases af:i=G
   .subst af;cases R with
    | cons y R =>
     exfalso;have C:=(hR y).1 (by simp);exact E y C.2 (l y (p y C.1))
    | nil =>
     cases n with
     | succ n=>simp at hn
     | zero =>
      cases s;refine wpOp_mono (λa w hq=>?_) (hQ _ _ _ hs (cY.refl _ _));refine⟨?_,hq⟩;apply TO.2;intro j hj;obtain⟨g1,o',g2,_⟩:=mem_ready.1 hj;have bo:=(sH.1 g2).1;by_cases k:j=i
      .subst k;have r:j<b.size:=by rw[t];exact bo
       simp[r]at g1
      .rw[getD_set_ne true (wJ k)]at g1;have:=(hR j).2 ⟨by omega,g1⟩;cases this
   .have bk:=(hR i).2 ⟨by omega,h1⟩;obtain⟨ys,xs,rfl⟩:=NC bk;have ag:∀ y∈ys,yb (it y).2 (it i).2=true:=by
     intro y C;have:=(tY.1 aq).2.2 y C i (by simp);obtain h|h:=this
     .exact(E y ((hR y).1 (by simp[C])).2 (l y (F i o U y h))).elim
     .exact h
    rw[sS,jH]at s;obtain⟨st1,M,D⟩:=fX.front s (λy C=>by obtain⟨z,V,rfl⟩:=cA.1 C;exact ag z V);cases n with
    | zero=>simp at hn
    | succ n =>
    cases M with
    | cons _ _ _ s1 _ S k2 W =>
     obtain⟨o',e1,e2,e3⟩:=hc i m;refine HD e1 e2 hs e3 S (λZ' w' a' O hp=>?_);have f:=List.nodup_append.1 bt;have ao:i∉ys:=λh=>f.2.2 i h i (by simp) rfl;have ap:i∉xs:=(List.nodup_cons.1 f.2.1).1;rw[<- List.map_append]at W;refine QU F hc u br p n (ys++xs) (by simp at hn ⊢;omega) ?_ (by simpa using t) ?_ ?_ ?_ ?_ W O ?_
     .refine GS.2 ⟨f.1,(uL.1 f.2.1).2,λy C z V=>f.2.2 y C z (by simp[V])⟩
     .intro y z V av;by_cases au:y=i
      .subst au;have r:y<b.size:=by rw[t];exact m
       simp[r]
      .rw[getD_set_ne false (wJ au)];by_cases aw:z=i
       .subst aw;exact l y av
       .rw[getD_set_ne false (wJ aw)]at V;exact ad y z V av
     .intro j;by_cases k:j=i
      .subst k;have r:j<b.size:=by rw[t];exact m
       simp[ao,ap,r]
      .rw[getD_set_ne true (wJ k),<- hR j];simp[k]
     .rw[getD_set_ne true af];exact al
     .refine JF ?_ aq;exact List.Sublist.append_left (List.sublist_cons_self _ _) _
     .intro Z2 w' a' O bu;exact hQ _ _ _ (O.eqv (iw.symm D)) ((hp.trans bu).trans (.dW (sC (iw.symm D).site _)))
def Ea(i:Ins):Item:=((none,i),⟨[],[],[],[]⟩)
def Nb(pre:List (List Nat))(n:Nat):Bool:=(List.range n).all λy=>(pre.getD n []).contains y
theorem MR.G9{is:List Ins}{i:Ins}{fs:List FP}{pre:List (List Nat)}(h:rK P is fs st st1)(hp:aJ [] 0 fs pre=true)(hl:Nb pre is.length=true)(k:ql P N i st1 A λs B=>Post .normal s B):MR P N (.fR (is++[i]) pre) st A Post:=by
 intro code j K Z w a Q hN hs hA hQ;cases code<;>simp only[comp]at j
 case region id ops ad =>
  split at j
  .rename_i hd;subst hd;split at j
   .rename_i ht;obtain⟨l,H,D⟩:=cO j;simp only[AC.fR.injEq]at D;obtain⟨rfl,rfl⟩:=D;subst hN;obtain⟨items,e1,e2,e3,e4⟩:=h.items;have S:=(C4 H).1;have f:items.length=is.length:=by rw[<- e1];simp
    have n:ops.size=is.length+1:=by rw[<- Array.length_toList,<- S];simp
    obtain⟨o,k1,k2⟩:∃ o,ops[is.length]?=some o/\xL P K.N ops o=some i:=by obtain⟨_,hi⟩:=C4 H;obtain⟨x,q1,q2⟩:=hi is.length ops[is.length] (by simp[n]);simp at q2;subst q2;exact⟨ops[is.length],by simp[n],q1⟩
    have J:=LK (items:=items++[Ea i]) (by simp[e1,Ea]) (λx b=>by
     obtain b|b:=dN.1 b
     .exact e3 x b
     .simp at b;subst b;intro c j;cases j) H
    have u:∀ x,x<is.length->(items++[Ea i]).getD x tS=items.getD x tS:=by intro x b;simp[eV,wN,f,b]
    have F:fX ((List.range is.length).map λx=>(items++[Ea i]).getD x tS) st st1:=by rw[show((List.range is.length).map λx=>(items++[Ea i]).getD x tS)=(List.range is.length).map λx=>items.getD x tS from uK λx b=>u x (yF.1 b),M3 _ _ _ f];exact e4
    have m:∀ (W:Region.Mode) (L:List Nat),oZ W ops L []=true->wpAny P W ops Q ops.size (Array.replicate ops.size false) a { w with drawn:=w.drawn+1 }:=by
     intro W L hL;have E:=hs.root;rw[n];refine QU (K:=⟨w,Z.M,lH Z st,K.N⟩) (pre:=λi=>(xC [] (yS ops.toList)).getD i []) (it:=λx=>(items++[Ea i]).getD x tS) (λx o ho y p=>LU ops x y p) J hL n (λy p=>?_) is.length (List.range is.length) (by simp) List.nodup_range (by simp[n]) (λy z hz _=>by simp[JE,NA]at hz;split at hz<;>simp at hz) (λi=>by simp[JE,NA];intro hi;rw[aX (by omega)];rfl) (by simp[JE]) ?_ F (Z:=Z) ⟨E.aY,E.defers,E.size,E.heap.drew⟩ (λZ' w' a' C hp=>?_)
     .refine LU ops _ y ?_;simp only[Nb,List.all_eq_true,List.mem_range]at hl;simpa using hl y p
     .refine JD ?_ Nz;intro y x p b V;have b:=yF.1 b;have p:=yF.1 p;rw[u x b,u y p];have O:fs[x]?=some (items.getD x tS).2:=by rw[<- e2];simp[f,b]
      have R:fs[y]?=some (items.getD y tS).2:=by rw[<- e2];simp[f,p]
      simpa using (K8 hp x _ O).2 y _ R V
     .exact k ops is.length o K Z' w' a' Q _ rfl k1 k2 (hs.rO C) (hA.later ⟨C.heap.m0,λr E=>E.later C,hp⟩) λst' A' Z2 w2 a2 hp U I=>hQ _ _ _ _ _ _ hp U I
    simp only[NO,jO,Dc,Ny]at ht;obtain⟨t1,G⟩:=ht;refine wp_region_draw λt=>?_;unfold Region.schedule;split
    .exact wpAny_sound ops.size t _ a _ (m .any _ t1)
    .rename_i hm;obtain G|⟨G,t3⟩:=G
     .simp[G]at hm
     .split
      .exact wpAny_sound ops.size _ _ a _ (m .text _ G)
      .exact wpAny_sound ops.size _ _ a _ (m .gc _ t3)
   .cases j
  .obtain⟨l,_,D⟩:=cO j;cases D
 all_goals (first|cases j|(split at j<;>cases j)|(obtain⟨_,_,D⟩:=cO j;cases D))
end
def mQ(kc:List PV)(v:PV):List PV->List PV->List PV × List PV
 | .agg c::ks,x::b=>if tD c kc=true then(.agg c::ks,v::b)else(.agg c::(mQ kc v ks b).1,x::(mQ kc v ks b).2)
 | _,_=>([.agg kc],[v])
theorem Q'{M:Nat->Option Obj}{I:List IntKind}{kc:List PV}{v:PV}{vals:List Value}(r:kA I kc=true)(H:PReps M kc vals):∀ {ks vs:List PV} {es:List MapEntry},ks.all (sA I)=true->PReps M ks (es.map (·.key))->PReps M vs (es.map (·.val))->(es.map (·.key)).Nodup ->
  ((∀ e:MapEntry,e∈es->e.key ≠ .agg vals.toArray)->mQ kc v ks vs=(ks++[.agg kc],vs++[v]))/\∀ (j:Nat) (e:MapEntry),es[j]?=some e->e.key=.agg vals.toArray->mQ kc v ks vs=(ks,vs.set j v)
 | [],vs,es,_,m,u,_=>by
  cases es with
  | nil=>cases u;exact⟨λ_=>rfl,λj e h=>by simp at h⟩
  | cons e es=>cases m
 | k::ks,vs,[],_,m,_,_=>by cases m
 | k::ks,vs,e::es,y,m,u,l=>by
  simp only[List.all_cons,jO]at y;simp only[jH]at m u l;cases m with
  | cons _ _ _ _ G z =>
   cases u with
   | cons x _ vs _ V E =>
    obtain⟨R,S⟩:=Q' (v:=v) r H y.2 z E (uL.1 l).2;cases k<;>simp only[sA,gP,false_and]at y;rename_i c;generalize o:e.key=U at G l;cases G with
    | agg _ F _ D =>
     have p:=Kv y.1 r D H;have f:(Value.agg F.toArray=.agg vals.toArray) ↔ F=vals:=by
      constructor
      .intro h;have:=congrArg (λv=>match v with|Value.agg J=>J.toList|_=>[]) h;simpa using this
      .rintro rfl;rfl
     by_cases s:F=vals
     .refine⟨λh=>absurd (o.trans (f.2 s)) (h e (by simp)),λj t n i=>?_⟩;have b:mQ kc v (.agg c::ks) (x::vs)=(.agg c::ks,v::vs):=by simp[mQ,p.2 s]
      cases j with
      | zero=>exact b
      | succ j =>
       exfalso;simp at n;have L:t∈es:=wM n;refine(uL.1 l).1 (cA.2 ⟨t,L,?_⟩);rw[i];exact(f.2 s).symm
     .have C:¬ tD c kc=true:=λh=>s (p.1 h);have b:mQ kc v (.agg c::ks) (x::vs)=(.agg c::(mQ kc v ks vs).1,x::(mQ kc v ks vs).2):=by simp[mQ,C]
      rw[b];refine⟨λh=>?_,λj t n i=>?_⟩
      .rw[R λx O=>h x (by simp[O])];rfl
      .cases j with
       | zero=>simp at n;subst n;exact absurd (f.1 (o.symm.trans i)) s
       | succ j=>rw[S j t (by simpa using n) i];rfl
theorem PReps.set{M:Nat->Option Obj}{vs:List PV}{xs:List Value}(i:Nat){r:PV}{x:Value}(h:PReps M vs xs)(b:PRep M r x):PReps M (vs.set i r) (xs.set i x):=by
 induction i generalizing vs xs with
 | zero =>
  cases h with
  | nil=>exact .nil
  | cons v y vs xs h hs=>exact .cons _ _ _ _ b hs
 | succ i f =>
  cases h with
  | nil=>exact .nil
  | cons v y vs xs h hs=>exact .cons _ _ _ _ h (f hs)
theorem PReps.snoc{M:Nat->Option Obj}:∀ {vs:List PV} {xs:List Value} {r:PV} {x:Value},PReps M vs xs->PRep M r x->PReps M (vs++[r]) (xs++[x])
 | _,_,_,_,.nil,h=>.cons _ _ _ _ h .nil
 | _,_,_,_,.cons _ _ _ _ h hs,k=>.cons _ _ _ _ h (PReps.snoc hs k)
def RN{P:Program}{w:World}{t kt et:TypeId}{qs:List IntKind}{M:Nat->Option Obj}{r:Nat}{ks vs kc:List PV}{v:PV}{vals:List Value}{x:Value}{es:Array MapEntry}{b:Nat}
  (ht:P.underlying t=some (.map kt et)) (s:WideMaps.KeyLaw P kt) (G:∀ {kc:List PV} {vals:List Value},kA qs kc=true->PReps M kc vals->∃ l,keyOf P kt (.agg vals.toArray)=some l)
  (hb:w.heap[r]?=some (.map es b)) (hm:EN M ks vs es b) (H:ks.all (sA qs)=true) (F:kA qs kc=true) (V:PReps M kc vals) (I:∀ c∈kc,c.one=true) (hx:PRep M v x) :
  ∃ z f,(Instr.mapUpdate t (.map (some r)) (.agg vals.toArray) x).run P w=.ok () (ChangeMaps.setBlock w r (.map z f))/\EN M (mQ kc v ks vs).1 (mQ kc v ks vs).2 z f:=by
 obtain⟨J,W,m3,m4,m5⟩:=hm;obtain⟨l,U⟩:=G F V;have D:=Mz G H J;obtain⟨f1,f2⟩:=Q' (v:=v) F V H J W m3;have m:=s.check w false U;have n:(getObj r).run P w=.ok (.map es b) w:=MapKept.run_getObj_map hb;have p:∀ L,(setObj r L).run P w=.ok () (ChangeMaps.setBlock w r L):=λL=>MapKept.run_setObj_map L hb;have k:=s.stays w U;obtain⟨O,C⟩|⟨j,e0,O,C,R⟩:=s.find w U es.toList D
 .refine⟨es.push ⟨.agg vals.toArray,x,b⟩,b+1,by simp[Instr.mapUpdate,run_underlying ht,n,m,O,p,Result.andThen],?_⟩;rw[f1 C];obtain⟨s1,s2,s3⟩:=MapKept.stamped_push ⟨m4,m5,m3⟩ (key:=.agg vals.toArray) (val:=x) C;exact⟨by simpa using J.snoc (.agg kc vals I V),by simpa using W.snoc hx,s3,s1,s2⟩
 .have S:es[j]?=some e0:=by simpa using C
  refine⟨es.modify j λy=>{ y with key:=.agg vals.toArray,val:=x },b,by simp[Instr.mapUpdate,run_underlying ht,n,m,O,S,R,k,p,Result.andThen],?_⟩;rw[f2 j e0 C R];have o:∀ u,es[j]?=some u->({ u with key:=.agg vals.toArray,val:=x }:MapEntry).key=u.key:=λu h=>by rw[S]at h;cases h;exact R.symm
  obtain⟨s1,s2,s3⟩:=MapKept.stamped_modify ⟨m4,m5,m3⟩ j (λy=>{ y with key:=.agg vals.toArray,val:=x }) (λ_ _=>rfl) (λu _ h=>o u h);refine⟨?_,?_,s3,s1,s2⟩
  .rw[MapKept.modify_keys j _ o];exact J
  .have:(es.modify j λy=>{ y with key:=.agg vals.toArray,val:=x }).toList.map (·.val)=(es.toList.map (·.val)).set j x:=by
    apply E6;intro i;simp only[EZ,Array.getElem?_toList,Array.getElem?_modify,vK];by_cases E:j=i
    .subst E;have:j<es.size:=(sH.1 S).1;simp[this]
    .simp[E]
   rw[this];exact W.set j hx
section
variable {P:Program} {K:Ctx} {Z Z':Cz} {st st' st1 st2:St} {w w':World} {a:Act} {N:Nat} {ex:Exit} {A B:Option FA} {Post:Exit->St->Option FA->Prop} {cC:St->Option FA->Prop}
def xz(r:Nat):FA:=⟨r,λ_ _=>True,λ_ _ _ _ h=>h,true,false,λ_ _ _ _=>True,λ_ _ _ _ _ _ _ _ h=>h⟩
theorem VP{d:Option Nat}{t kt et e:TypeId}{n:Nat}{q:IntKind}{x y z r:Nat}{ks vs kc:List PV}{v:PV}(ht:P.underlying t=some (.map kt et))(hk:P.underlying kt=some (.array n e))(he:P.underlying e=some (.int q))(hn:P.cellsOf kt=n)(hc:P.cellsOf e=1)(h0:0<P.types.size)
  (hx:st.get x=.p (.mp r ks vs)) (hy:st.get y=.p (.agg kc)) (hz:st.get z=.p v) (au:ks.all (sA (List.replicate n q))=true) (aq:kA (List.replicate n q) kc=true)
  (aw:jR (mQ kc v ks vs).1=true) (bb:jR (mQ kc v ks vs).2=true)
  (k:cC ⟨[],[]⟩ (some (sN r (mQ kc v ks vs).1 (mQ kc v ks vs).2))):ql P N ⟨none,.raw (.mapUpdate t (.tmp x) (.tmp y) (.tmp z)),none⟩ st (some (xz r)) cC:=by
 intro ops j o K Z w a Q Kt hN hj ao u hA hK;obtain⟨O,D,h3,h4⟩:=EE ao;have bk:o.op=.mapUpdate t (.tmp x) (.tmp y) (.tmp z):=Qr O;have hg:o.guard=none:=by
  cases hg:o.guard with
  | none=>rfl
  | some jb =>
   obtain⟨j,b⟩:=jb;rw[hg]at D;simp only[A3]at D;split at D<;>cases D
 have hw:Region.wanted o (yielded ops a.tmps)=true:=by simp[Region.wanted,hg]
 have hd:o.dst=none:=h3.symm;have q1:=u.aY x;have q2:=u.aY y;have q3:=u.aY z
 rw[hx]at q1;rw[hy]at q2;rw[hz]at q3;have e1:a.eval (.tmp x)=a.tmps.getD x Go.undef:=rfl;have e2:a.eval (.tmp y)=a.tmps.getD y Go.undef:=rfl;have e3:a.eval (.tmp z)=a.tmps.getD z Go.undef:=rfl;generalize a.tmps.getD x Go.undef=X at q1 e1;generalize a.tmps.getD y Go.undef=Y at q2 e2;generalize a.tmps.getD z Go.undef=V at q3 e3;have bo:=q3.cF;cases q1.cF with
 | mp _ _ _ es af m0 m1 m2 m3 m4 m5 =>
  cases q2.cF with
  | agg _ br U hv =>
   have C:=u.heap.mem _ _ m0;obtain⟨G,f,W,av⟩:=RN ht (Tr hk he hn hc) (λO D=>QA hk he hn hc h0 O D) C ⟨m1,m2,m3,m4,m5⟩ au aq hv U bo;have E:r<w.heap.size:=(sH.1 C).1;obtain⟨ag,R⟩:K.M0 r=none/\(K.X0 r\/K.w0.heap.size<=r):=hA
   let L:Nat->Option Obj:=λb=>if b=r then none else Z.M b
   have S:∀ b o,L b=some o->b≠r/\Z.M b=some o:=λb o h=>by
    simp only[L]at h;split at h
    .cases h
    .exact⟨by assumption,h⟩
   have i:∀ b F T fr,Z.M b=some (.cells F T fr)->L b=some (.cells F T fr):=λb F T fr h=>by
    simp only[L];rw[bD];· exact h
    .rintro rfl;rw[m0]at h;cases h
   obtain⟨p1,p2,p3,p4,p5⟩:=av;have m:∀ s g,(⟨[],[]⟩:St).obj s g=none:=λ_ _=>rfl;refine(show o.wp P a w Kt Q from ?_) |> λh=>by unfold wpOp;simp only[hj,hw,cH];exact .inl h
   unfold Oper.wp;have ap:(execOp a.eval o).run P w=.ok .skip (ChangeMaps.setBlock w r (.map G f)):=by simp[execOp,bk,e1,e2,e3,W,Result.andThen]
   rw[ap];refine hK ⟨[],[]⟩ (some (sN r (mQ kc v ks vs).1 (mQ kc v ks vs).2)) ⟨L,Z.B,Z.cap⟩ _ _ k ?_ ?_
   .rw[hd];have J:=Lq w r (.map G f);refine⟨λt=>.undef _,u.defers,u.size,⟨λs g o l=>(by rw[m]at l;cases l),λs g _ _ o _ b l=>(by rw[m]at l;cases l),λb o C=>?_,λs g o b l=>(by rw[m]at l;cases l),λs g o b l=>(by rw[m]at l;cases l),λb o H=>?_,λb o C=>u.heap.eM b o (S b o C).2,?_⟩⟩
    .obtain⟨O,D⟩:=S b o C;have h3:=u.heap.mem b o D;rw[J.bX b (sH.1 h3).1 O];exact h3
    .have:=u.heap.m0 b o H;show(if b=r then none else Z.M b)=some o;rw[bD];· exact this
     .rintro rfl;rw[ag]at H;cases H
    .have I:=u.heap.keep;refine⟨J.os.trans I.os,J.tape.trans I.tape,J.output.trans I.output,dM I.drawn J.drawn,dM I.size J.size,λb C ad=>?_⟩;rw[J.bX b (iL C I.size) λal=>by
      subst al;obtain h|h:=R
      .exact ad h
      .omega]
     exact I.bX b C ad
   .refine⟨⟨by simp[L,sN],λs g o l=>(by rw[m]at l;cases l),?_⟩,R,G,f,?_,?_⟩
    .show r<(w.heap.setIfInBounds r _).size;simpa using E
    .show(w.heap.setIfInBounds r _)[r]?=_;rw[TN];simp[E]
    .exact⟨p1.cN i aw,p2.cN i bb,p3,p4,p5⟩
def DH(P:Program)(f:FuncId)(ks vs args:List PV)(k l:List PV):Prop :=
 (∃ j,P.funcs[f]?=some j/\j.body.isSome=true/\j.name ≠ "runtime.NumGoroutine") /\
 ∀ (w:World) (M:Nat->Option Obj) (r:Nat) (h:List Value),(∀ b o,M b=some o->w.heap[b]?=some o)->PReps M (.mp r ks vs::args) h ->
  Calls P f h.toArray w λe w'=>∃ i,e=.returned (.tuple #[])/\(∀ b o,b≠r->M b=some o->i b=some o)/\(∀ b o,i b=some o->w'.heap[b]?=some o) /\
   (∀ b o,i b=some o->b=r\/M b=some o\/w.heap.size<=b)/\Keep w w' (λb=>b=r)/\PRep i (.mp r k l) (.map (some r))
theorem DH.fZ{f:FuncId}{ks vs args y z:List PV}{n np:Nat}{b:GC}(l:aP P f=some ⟨n,np,b.er,[]⟩)(hn:args.length+1<=n)
  (h:∀ r,MR P n b.er (vy (.mp r ks vs::args)) (some (xz r)) λex s B=>(ex=.normal\/ex=.ret)/\(B=some (sN r y z)\/(B=some (xz r)/\s.get 0=.p (.mp r y z)))):DH P f ks vs args y z:=by
 unfold aP at l;split at l
 .rename_i fn hf;split at l
  .rename_i G;split at l
   .rename_i c i;split at l
    .rename_i bd rs O F;simp only[cD,Cv.mk.injEq]at l;obtain⟨rfl,_,rfl,rfl⟩:=l;refine⟨⟨fn,hf,by rw[i];rfl,G⟩,λw M r vals hM hv=>?_⟩;refine calls_of_wp hf i ?_;obtain⟨es,clock,m0⟩:∃ es clock,M r=some (.map es clock):=by
      cases hv with
      | cons _ _ _ _ h _=>cases h with
       | mp _ _ _ es clock m0=>exact⟨es,clock,m0⟩
     have ad:r<w.heap.size:=(Array.getElem?_eq_some_iff.1 (hM _ _ m0)).1;have hi:=LH hM hv (N:=fn.ntmps) (by simpa using hn);have U:aN ⟨w,λb=>if b=r then none else M b,λb=>b=r,fn.ntmps⟩ ⟨M,λ_ _=>none,λ_ _=>0⟩ (vy (.mp r ks vs::args)) w { tmps:=vals.toArray++Array.replicate (fn.ntmps - vals.toArray.size) Go.undef,defers:=[] }:=by
      refine⟨hi.aY,hi.defers,hi.size,⟨hi.heap.bT,hi.heap.inj,hi.heap.mem,hi.heap.sep,λs g o b j i=>(by cases i),λb o i=>?_,λb o i=>?_,⟨rfl,rfl,rfl,dE _,dE _,λ_ _ _=>rfl⟩⟩⟩
      .simp only at i;split at i
       .cases i
       .exact i
      .by_cases H:b=r
       .exact .inr (.inl H)
       .exact .inl (by simp only;rw[bD H];exact i)
     refine h r _ O _ _ w _ _ rfl U ⟨by simp[xz],.inl rfl⟩ λex st' A' Z' w' L hp k S=>?_
     have D:L.defers=[]/\∃ v,(results fn L.tmps).run P w'=.ok v w'/\∃ M',Ending.returned v=.returned (.tuple #[])/\(∀ b o,b≠r->M b=some o->M' b=some o)/\(∀ b o,M' b=some o->w'.heap[b]?=some o) /\
       (∀ b o,M' b=some o->b=r\/M b=some o\/w.heap.size<=b)/\Keep w w' (λb=>b=r)/\PRep M' (.mp r y z) (.map (some r)):=by
      have V:fn.results.toList=[]:=by
       cases hl:fn.results.toList with
       | nil=>rfl
       | cons x xs =>
        rw[hl]at F;cases x with
        | tmp t=>simp only[zO]at F;obtain⟨_,_,h⟩:=cO F;cases h
        | cell _ _ =>
         simp only[zO]at F;split at F<;>try cases F
         obtain⟨_,_,h⟩:=cO F;cases h
      have J:(results fn L.tmps).run P w'=.ok (.tuple #[]) w':=by unfold results;rw[EY,V];simp
      refine⟨k.defers,_,J,?_⟩;have I:∀ b o,b≠r->M b=some o->Z'.M b=some o:=λb o i j=>k.heap.m0 b o (by simp only;rw[bD i];exact j);have u:∀ b o,Z'.M b=some o->b=r\/M b=some o\/w.heap.size<=b:=λb o j=>by
       obtain h|h|h:=k.heap.eM b o j
       .simp only at h;split at h
        .cases h
        .exact .inr (.inl h)
       .exact .inl h
       .exact .inr (.inr h)
      obtain rfl|⟨rfl,hg⟩:=hp.2
      .obtain⟨hF,_,R,C,q0,q1,q2,q3,q4,q5⟩:=S;have E:∀ b o,Z'.M b=some o->(if b=r then w'.heap[r]? else Z'.M b)=some o:=λb o j=>by
        rw[bD];· exact j
        .rintro rfl;have:=hF.m;simp only[sN]at this;rw[this]at j;cases j
       refine⟨λb=>if b=r then w'.heap[r]? else Z'.M b,rfl,λb o i j=>by simp only;rw[bD i];exact I b o i j,λb o j=>?_,λb o j=>?_,k.heap.keep,?_⟩
       .simp only at j;split at j
        .rename_i i;subst i;exact j
        .exact k.heap.mem b o j
       .simp only at j;split at j
        .rename_i i;exact .inl i
        .exact u b o j
       .exact .mp r y z R C (by simp only[cH];exact q0) (q1.mono E) (q2.mono E) q3 q4 q5
      .refine⟨Z'.M,rfl,I,k.heap.mem,u,k.heap.keep,?_⟩;have W:=k.aY 0;rw[hg]at W;have O:=W.cF;generalize L.tmps.getD 0 Go.undef=X at O;cases O with
       | mp _ _ _ es clock m0 m1 m2 m3 m4 m5=>exact .mp _ _ _ es clock m0 m1 m2 m3 m4 m5
     obtain rfl|rfl:=hp.1
     .exact D
     .exact D
    .cases l
   .cases l
  .cases l
 .cases l
end
end Go.Ab
