/- Lemmas for the law ComposeBuildsMadeModels, part 10. No conditions. -/
import Derived.Test.YthhdboljpgdcpaaGreatDoorAP09
set_option maxRecDepth 100000
set_option maxHeartbeats 4000000
set_option linter.all false
namespace Go.Ab
section
variable (P:Program) (N:Nat) (Q:Exit->St->Prop)
def oK(o:d')(d:Option Nat)(dd:List (List Nat))(ks:List Kt):Prop:=fT (λv s=>vm P N Q ks ((s.rep d v).eK dd)) o
def Ix(st:St)(f:FuncId)(vs:List AV)(d:Option Nat)(dd:List (List Nat))(ks:List Kt):Prop:=vP P st (d.getD 0) f vs λ_ v s=>vm P N Q ks ((s.rep d v).eK dd)
def HY(st:St)(f:AV)(vs:List AV)(d:Option Nat)(dd:List (List Nat))(ks:List Kt):Prop:=Eg P st (d.getD 0) f vs λ_ v s=>vm P N Q ks ((s.rep d v).eK dd)
def wF(st:St)(op:c7)(d:Option Nat)(dd:List (List Nat))(ks:List Kt):Prop :=
 match op with
 | .call f args=>Ix P N Q st f (args.map st.ev) d dd ks
 | .gS x args=>HY P N Q st (st.ev x) (args.map st.ev) d dd ks
 | op=>oK P N Q (oc st (d.getD 0) op) d dd ks
structure Dr where
 i:Ins
 is:List Ins
 fs:List FP
 pre:List (List Nat)
 dead:List (List Nat)
def Ty(st:St)(f:FuncId)(vs:List AV)(r:Dr)(ks:List Kt):Prop :=
 vP P st (r.i.dst.getD 0) f vs λc v s=>vm P N Q (.fJ r.is (r.fs++[fp (some c) st r.i]) r.pre r.dead.tail::ks) ((s.rep r.i.dst v).eK r.dead)
def Rj(st:St)(f:AV)(vs:List AV)(r:Dr)(ks:List Kt):Prop :=
 Eg P st (r.i.dst.getD 0) f vs λc v s=>vm P N Q (.fJ r.is (r.fs++[fp (some c) st r.i]) r.pre r.dead.tail::ks) ((s.rep r.i.dst v).eK r.dead)
def DK(st:St)(op:c7)(r:Dr)(ks:List Kt):Prop :=
 match op with
 | .call f args=>Ty P N Q st f (args.map st.ev) r ks
 | .gS x args=>Rj P N Q st (st.ev x) (args.map st.ev) r ks
 | op=>oK P N Q (oc st (r.i.dst.getD 0) op) r.i.dst r.dead (.fJ r.is (r.fs++[fp none st r.i]) r.pre r.dead.tail::ks)
inductive Gh:Type 1
 | vm (ks:List Kt) (st:St)
 | o (o:d') (d:Option Nat) (dd:List (List Nat)) (ks:List Kt)
 | op (st:St) (op:c7) (d:Option Nat) (dd:List (List Nat)) (ks:List Kt)
 | TL (st:St) (op:c7) (r:Dr) (ks:List Kt)
def runT:Gh->Prop
 | .vm ks st=>vm P N Q ks st
 | .o o d dd ks=>oK P N Q o d dd ks
 | .op st b d dd ks=>wF P N Q st b d dd ks
 | .TL st b r ks=>DK P N Q st b r ks
def qZ(c:Bool)(X Y:Gh):Prop:=(c=true->runT P N Q X)/\(c=false->runT P N Q Y)
def Ms(v:AV)(X Y:Gh):Prop :=
 match v with
 | .p (.bool c)=>qZ P N Q c X Y
 | _=>False
def Ej(v:AV)(b:Bool)(X Y f:Gh):Prop :=
 match v with
 | .p (.bool c)=>if b=true then qZ P N Q c X Y else qZ P N Q c Y X
 | .skip=>runT P N Q f
 | _=>False
def gI(r:Option (List Kt))(id:Nat)(st:St):Prop :=
 match r with
 | some ks=>vm P N Q ks st
 | none=>Q (.exit id) st
def Cx{α : Type}(l:List α)(i:Nat)(K : α -> Prop):Prop:=∃ e,l[i]?=some e/\K e
end
section
variable {P:Program} {N:Nat} {Q:Exit->St->Prop} {st st1:St} {ks:List Kt} {d:Option Nat} {dead dd:List (List Nat)} {dl:List Nat} {α β : Type}
@[simp] theorem ym1:vm P N Q [] st=Q .normal st:=by rw[vm]
@[simp] theorem ym4(j:Nat):vm P N Q (.bU j::ks) st=vm P N Q ks st:=by rw[vm]
@[simp] theorem yk2:vm P N Q (.ins [] dead::ks) st=vm P N Q ks st:=by rw[vm]
@[simp] theorem yjn(b:List FP)(pre:List (List Nat)):vm P N Q (.fJ [] b pre dead::ks) st=(aQ [] 0 b pre=true/\vm P N Q ks st):=by rw[vm]
@[simp] theorem ym2(b:c7)(f:List Ins):vm P N Q (.ins (⟨d,b,none⟩::f) dead::ks) st=wF P N Q st b d dead (.ins f dead.tail::ks):=by rw[vm];simp only[Az,wF,oW];cases b<;>rfl
@[simp] theorem yk0(h:c7)(f:List Ins)(t:Nat)(b:Bool):vm P N Q (.ins (⟨d,h,some (t,b)⟩::f) dead::ks) st =
  Ej P N Q (st.get t) b (.op (st.rep (some t) (.p (.bool b))) h d dead (.ins f dead.tail::ks)) (.vm (.ins f dead.tail::ks) (((st.rep (some t) (.p (.bool !b))).rep d .skip).eK dead)) (.vm (.ins f dead.tail::ks) ((st.rep d .skip).eK dead)):=by
 rw[vm];simp only[Az,Ej];cases st.get t with
 | p v =>
  cases v with
  | bool c =>
   have e:∀ s,(oW P s (d.getD 0) h λ_ v s=>vm P N Q (.ins f dead.tail::ks) ((s.rep d v).eK dead))=wF P N Q s h d dead (.ins f dead.tail::ks):=λs=>by simp only[wF,oW];cases h<;>rfl
   simp only[e];cases b<;>simp only[qZ,runT,cB,gJ,fQ,Bool.not_true,Bool.not_false];rw[and_comm]
  | _=>rfl
 | _=>rfl
@[simp] theorem yk1(b:c7)(h:List Ins)(f:List FP)(pre:List (List Nat)):vm P N Q (.fJ (⟨d,b,none⟩::h) f pre dead::ks) st=DK P N Q st b ⟨⟨d,b,none⟩,h,f,pre,dead⟩ ks:=by rw[vm];simp only[Az,DK,oW];cases b<;>rfl
@[simp] theorem yjm(f:c7)(i:List Ins)(t:Nat)(b:Bool)(h:List FP)(pre:List (List Nat)):vm P N Q (.fJ (⟨d,f,some (t,b)⟩::i) h pre dead::ks) st =
  Ej P N Q (st.get t) b (.TL (st.rep (some t) (.p (.bool b))) f ⟨⟨d,f,some (t,b)⟩,i,h,pre,dead⟩ ks)
   (.vm (.fJ i (h++[fp none (st.rep (some t) (.p (.bool !b))) ⟨d,f,some (t,b)⟩]) pre dead.tail::ks) (((st.rep (some t) (.p (.bool !b))).rep d .skip).eK dead))
   (.vm (.fJ i (h++[fp none st ⟨d,f,some (t,b)⟩]) pre dead.tail::ks) ((st.rep d .skip).eK dead)):=by
 rw[vm];simp only[Az,Ej];cases st.get t with
 | p v =>
  cases v with
  | bool c =>
   have e:∀ s,(oW P s (d.getD 0) f λc v j=>vm P N Q (.fJ i (h++[fp c s ⟨d,f,some (t,b)⟩]) pre dead.tail::ks) ((j.rep d v).eK dead))=DK P N Q s f ⟨⟨d,f,some (t,b)⟩,i,h,pre,dead⟩ ks:=λs=>by simp only[DK,oW];cases f<;>rfl
   simp only[e];cases b<;>simp only[qZ,runT,cB,gJ,fQ,Bool.not_true,Bool.not_false];rw[and_comm]
  | _=>rfl
 | _=>rfl
@[simp] theorem ym0:vm P N Q (.code .iX::ks) st=vm P N Q ks st:=by rw[vm]
@[simp] theorem ymz(b:List Ins):vm P N Q (.code (.cY b dead)::ks) st=vm P N Q (.ins b dead::ks) st:=by rw[vm]
@[simp] theorem yky(b:List Ins)(pre:List (List Nat)):vm P N Q (.code (.fM b pre dead)::ks) st=vm P N Q (.fJ b [] pre dead::ks) st:=by rw[vm]
@[simp] theorem ymx(a b:GC):vm P N Q (.code (.seq a b)::ks) st=vm P N Q (.code a::.code b::ks) st:=by rw[vm]
@[simp] theorem yk3(c:bL)(a b:GC):vm P N Q (.code (.cond c dl a b)::ks) st=Ms P N Q (st.ev c) (.vm (.code a::ks) (st.drop dl)) (.vm (.code b::ks) (st.drop dl)):=by
 rw[vm];simp only[Iy,Ms];cases st.ev c with
 | p v=>cases v<;>rfl
 | _=>rfl
@[simp] theorem yjo(id:Nat)(b:GC):vm P N Q (.code (.bU id b)::ks) st=vm P N Q (.code b::.bU id::ks) st:=by rw[vm]
@[simp] theorem ykz(b:GC):vm P N Q (.code (.loop b)::ks) st=vL P N Q b ks st:=by rw[vm]
@[simp] theorem ym3(id:Nat):vm P N Q (.code (.ext id)::ks) st=gI P N Q (fS id ks) id st:=by rw[vm];simp only[gI];split<;>rename_i h<;>simp only[h]
@[simp] theorem ymy:vm P N Q (.code .ret::ks) st=Q .ret st:=by rw[vm]
@[simp] theorem ygw(b:GC):vm P N Q (.code (.cut b)::ks) st=eM P N Q (.code b::ks) .normal st:=by rw[vm]
@[simp] theorem ym5:vm P N Q (.code .bad::ks) st=False:=by rw[vm]
@[simp] theorem Gl(c:Prop)(v:AV)(s:St):oK P N Q (.ok c v s) d dd ks=(c/\vm P N Q ks ((s.rep d v).eK dd)):=rfl
@[simp] theorem yk6:oK P N Q .bad d dd ks=False:=rfl
@[simp] theorem ym6(t:Bool)(a b:d'):oK P N Q (.br t a b) d dd ks=qZ P N Q t (.o a d dd ks) (.o b d dd ks):=rfl
@[simp] theorem yk5(x : α)(l:List α)(f : α -> d'):oK P N Q (.el (x::l) 0 f) d dd ks=oK P N Q (f x) d dd ks:=by simp[oK,fT]
@[simp] theorem yk4(x : α)(l:List α)(n:Nat)(f : α -> d'):oK P N Q (.el (x::l) (n+1) f) d dd ks=oK P N Q (.el l n f) d dd ks:=by simp[oK,fT]
theorem lM(l:List α)(n:Nat)(f : α -> d'):oK P N Q (.el l n f) d dd ks=Cx l n λx=>oK P N Q (f x) d dd ks:=rfl
def Sb(g : α -> β)(l:List α)(n:Nat)(f : β -> d'):oK P N Q (.el (l.map g) n f) d dd ks=Cx l n λx=>oK P N Q (f (g x)) d dd ks:=by simp only[oK,fT,Cx,FE,wa];exact propext ⟨λ⟨e,⟨a,b,h⟩,i⟩=>⟨a,b,h ▸ i⟩,λ⟨a,b,h⟩=>⟨_,⟨a,b,rfl⟩,h⟩⟩
def bK{l:List α}{n:Nat}{K : α -> Prop}(h:n<l.length)(k:K l[n]):Cx l n K:=⟨l[n],by simp[h],k⟩
def eO{l:List α}{n:Nat}{x : α}{K : α -> Prop}(h:l[n]?=some x)(k:K x):Cx l n K:=⟨x,h,k⟩
section
variable (X Y:Gh)
@[simp] theorem yjp:qZ P N Q true X Y=runT P N Q X:=by simp[qZ]
@[simp] theorem yg1:qZ P N Q false X Y=runT P N Q Y:=by simp[qZ]
@[simp] theorem ygd(p:Prop)[Decidable p]:qZ P N Q (decide p) X Y=((p->runT P N Q X)/\(¬ p->runT P N Q Y)):=by simp[qZ]
@[simp] theorem yk8(c:Bool):qZ P N Q (!c) X Y=qZ P N Q c Y X:=by simp[qZ,and_comm]
@[simp] theorem ylb(a b:Bool):qZ P N Q (a&&b) X Y=(((a&&b)=true->runT P N Q X)/\((a&&b)=false->runT P N Q Y)):=rfl
@[simp] theorem ym7(a b:Bool):qZ P N Q (a||b) X Y=(((a||b)=true->runT P N Q X)/\((a||b)=false->runT P N Q Y)):=rfl
@[simp] theorem yla[BEq α](a b : α):qZ P N Q (a == b) X Y=(((a == b)=true->runT P N Q X)/\((a == b)=false->runT P N Q Y)):=rfl
@[simp] theorem yk9[BEq α](a b : α):qZ P N Q (a != b) X Y=(((a != b)=true->runT P N Q X)/\((a != b)=false->runT P N Q Y)):=rfl
theorem E8(c:Bool):qZ P N Q c X Y=((c=true->runT P N Q X)/\(c=false->runT P N Q Y)):=rfl
end
attribute [simp] runT Ms Ej gI wF DK HY Rj Eg fS
attribute [simp] fB I6 oZ BD Mq IG Am d'.and oc xd
attribute [simp] St.eK
attribute [simp] St.ev St.get look St.rep rep St.drop xB St.site St.obj St.alloc St.setObj aJ BK
attribute [simp] AV.sz PV.sz AV.xY PV.xY PV.cells AV.cells AV.rR eJ uU zU zP AV.fL AV.uM AV.uL AV.iZ sT AV.one PV.one PV.nL PV.flat PV.unit PV.rD gD jZ tP xE
attribute [simp] fp runs eu gV vU xm lJ Au c7.bZ bL.aR aQ xz uQ
@[simp] theorem ygu(f:FuncId)(b:List PV)(vs:List AV):HY P N Q st (.p (.fn f b)) vs d dd ks=Ix P N Q st f (vs++b.map .p) d dd ks:=rfl
@[simp] theorem yjh(f:FuncId)(b vs:List AV):HY P N Q st (.fn f b) vs d dd ks=Ix P N Q st f (vs++b) d dd ks:=rfl
def Hz{c:bI}{e:Nat}{vs:List AV}(b:vs.mapM (bE st aZ)=some c.args)(hn:Av c.res=false:=by rfl):xn (some c) st e c.f vs=yq c st e vs:=aW ⟨rfl,by rw[Fu hn];exact b⟩
def bF{f:FuncId}{e:Nat}{vs:List AV}{args:List PV}{r:PV}{K:bI->AV->St->Prop}(hs:Sp P f args (.pure r))(b:vs.mapM (bE st aZ)=some args)
  (k:K ⟨f,args,.pure r,none⟩ (.p r) (if r.nL then st else aJ st (vs.flatMap (aO st aZ)))):vP P st e f vs K :=
 ⟨⟨f,args,.pure r,none⟩,hs,.p r,_,Hz (c:=⟨f,args,.pure r,none⟩) b,k⟩
def bA{f:FuncId}{e:Nat}{vs:List AV}{args:List PV}{r:PV}{K:bI->AV->St->Prop}(hs:Sp P f args (.pure r))
 (k:K ⟨f,args,.pure r,none⟩ (.p r) (if r.nL then st else aJ st (vs.flatMap (aO st aZ)))) (b:vs.mapM (bE st aZ)=some args:=by simp):vP P st e f vs K:=bF hs b k
theorem Fi{f:FuncId}{e:Nat}{vs:List AV}{args:List PV}{sz:Nat}{es:List PV}{K:bI->AV->St->Prop}(hs:Sp P f args (.fresh sz es))(i:vs.mapM (bE st aZ)=some args)
  (h:es.all (λv=>v.sz == sz)=true/\0<sz/\es.length<=eS) (st1:St) (b:st1=(if es.all PV.flat then st else aJ st (vs.flatMap (aO st aZ))))
  (k:K ⟨f,args,.fresh sz es,none⟩ (.own e (st1.site e).length 0 es.length) (st1.alloc e ⟨sz,es.map .p⟩)):vP P st e f vs K:=by
 subst b;refine⟨⟨f,args,.fresh sz es,none⟩,hs,_,_,(Hz (c:=⟨f,args,.fresh sz es,none⟩) i).trans ?_,k⟩;simp only[yq,yr];rw[aW h];rfl
def ye0:AV->Bool
 | .undef=>false
 | _=>true
def ZC{f:FuncId}{e:Nat}{vs:List AV}{hp b:List Site}{i:HV}{K:bI->AV->St->Prop}(hs:kO P f vs hp none i b none)(hu:vs.all ye0=true)(l:pZ st hp hp)(j:b.map (·.1)=hp.map (·.1))
  (m:(kX (hp.map (·.1)) vs&&dQ (hp.map (·.1)) hp&&vQ (hp.map (·.1)) i&&dQ (hp.map (·.1)) b)=true)
  (k:K ⟨f,[],.oa vs hp i b,none⟩ (sM i ⟨st.sl,b++st.hp⟩ e).1 (sM i ⟨st.sl,b++st.hp⟩ e).2):vP P st e f vs K :=
 ⟨⟨f,[],.oa vs hp i b,none⟩,hs,_,_,aW ⟨rfl,rfl,(λh=>by have:=kR.1 hu _ h;cases this),l,j,m⟩,k⟩
def c8{f:FuncId}{vs:List AV}{args:List PV}{r:PV}(hs:Sp P f args (.pure r))(b:vs.mapM (bE st aZ)=some args)
  (k:vm P N Q ks (((if r.nL then st else aJ st (vs.flatMap (aO st aZ))).rep d (.p r)).eK dd)):Ix P N Q st f vs d dd ks:=bF hs b k
def fE{f:FuncId}{vs:List AV}{args:List PV}{r:PV}{D:Dr}(hs:Sp P f args (.pure r))(b:vs.mapM (bE st aZ)=some args)
  (k:vm P N Q (.fJ D.is (D.fs++[fp (some ⟨f,args,.pure r,none⟩) st D.i]) D.pre D.dead.tail::ks) (((if r.nL then st else aJ st (vs.flatMap (aO st aZ))).rep D.i.dst (.p r)).eK D.dead)):Ty P N Q st f vs D ks:=bF hs b k
theorem fY.inv{b:AC}{α : Type}(S : α -> St)(I : α -> Prop)(m : α -> Nat)
  (step:∀ x,I x->∀ R:Exit->St->Prop,(∀ y s,aA s (S y)->I y->m y<m x->R .normal s)->(∀ ex s,ex ≠ .normal->Q ex s->R ex s)->∃ ex s,cT P N b (S x) ex s/\R ex s) :
  ∀ (n:Nat) (x : α),m x<n->I x->∀ {st:St},aA st (S x)->∃ ex s,fY P N b st ex s/\Q ex s
 | 0,_,h,_,_,_=>absurd h (Nat.not_lt_zero _)
 | n+1,x,h,p,st,k=>by
  obtain⟨ex,s,l,o⟩:=step x p (λex s=>(ex=.normal->∃ y,aA s (S y)/\I y/\m y<m x)/\(ex ≠ .normal->Q ex s)) (λy s f i h3=>⟨λ_=>⟨y,f,i,h3⟩,λh=>absurd rfl h⟩) (λex s f i=>⟨λh=>absurd h f,λ_=>i⟩);by_cases j:ex=.normal
  .subst j;obtain⟨y,z,C,D⟩:=o.1 rfl;obtain⟨ex,u,r,t⟩:=fY.inv S I m step n y (by omega) C z;exact⟨ex,u,fY.nH k (.next _ _ _ _ l r),t⟩
  .exact⟨_,s,fY.nH k (.out _ _ _ l j),o.2 j⟩
def SX(P:Program)(N:Nat)(Q:Exit->St->Prop)(ks:List Kt):Exit->St->Prop
 | .exit id,s=>gI P N Q (fS id ks) id s
 | ex,s=>Q ex s
def G1{ex:Exit}{s:St}(i:ex ≠ .normal)(h:SX P N Q ks ex s)(f:ex=.ret\/∃ id,ex=.exit id):eM P N Q ks ex s:=by
 obtain rfl|⟨id,rfl⟩:=f
 .exact yz h
 .refine Dl ?_;simp only[SX,gI]at h;split at h
  .rename_i b;simp only[b];exact lG _ (dK _) h
  .rename_i b;simp only[b];exact h
def cQ{b:GC}{α : Type}(S : α -> St)(I : α -> Prop)(m : α -> Nat)(f : α)(j:aA st (S f))(l:I f)
  (step:∀ x,I x->∀ R:Exit->St->Prop,(∀ y s,aA s (S y)->I y->m y<m x->R .normal s)->(∀ s,Q .ret s->R .ret s)->(∀ id s,gI P N Q (fS id ks) id s->R (.exit id) s)->vm P N R [.code b] (S x)) :
  vL P N Q b ks st:=by
 refine fY.inv (Q:=eM P N Q ks) S I m (λx n R k i=>?_) (m f+1) f (Nat.lt_succ_self _) l j;obtain⟨ex,s,o,p⟩:=lG (P:=P) (N:=N) _ (dK _) (step x n R k (λs h=>i _ _ (by simp) (yz h)) (λid s h=>i _ _ (by simp) (G1 (by simp) h (.inr ⟨id,rfl⟩))));exact⟨ex,s,o,p⟩
end
attribute [simp] IntKind.bits
class Enc (α : Type) where
 enc : α -> PV
 sz:Nat
 pos:0<sz
 ok:∀ x,(enc x).sz=sz
open Enc (enc)
def aH{α : Type}[Enc α](l:List α):List PV:=l.map enc
def aT{α : Type}[Enc α](l:List α):List AV:=(aH l).map .p
instance:Enc UInt32:=⟨λx=>.int .u32 x.toNat,1,Nat.one_pos,λ_=>rfl⟩
instance:Enc UInt64:=⟨λx=>.int .u64 x.toNat,1,Nat.one_pos,λ_=>rfl⟩
instance:Enc Int:=⟨λx=>.int .i64 x,1,Nat.one_pos,λ_=>rfl⟩
instance:Enc Bool:=⟨λx=>.bool x,1,Nat.one_pos,λ_=>rfl⟩
instance {α : Type} [Enc α]:Enc (List α):=⟨λx=>.sl (aH x),1,Nat.one_pos,λ_=>rfl⟩
@[simp] theorem Zj(x:UInt32):enc x=.int .u32 x.toNat:=rfl
@[simp] theorem Zk(x:UInt64):enc x=.int .u64 x.toNat:=rfl
@[simp] theorem yl9(x:Int):enc x=.int .i64 x:=rfl
@[simp] theorem yj6(x:Bool):enc x=.bool x:=rfl
@[simp] theorem yj5{α : Type}[Enc α](x:List α):enc x=.sl (aH x):=rfl
@[simp] theorem yir:Enc.sz UInt32=1:=rfl
@[simp] theorem yiq:Enc.sz UInt64=1:=rfl
@[simp] theorem yiu:Enc.sz Int=1:=rfl
@[simp] theorem ygn:Enc.sz Bool=1:=rfl
@[simp] theorem ygm{α : Type}[Enc α]:Enc.sz (List α)=1:=rfl
section
variable {P:Program} {N:Nat} {Q:Exit->St->Prop} {st st1:St} {ks:List Kt} {d:Option Nat} {dd:List (List Nat)} {α β : Type} [Enc α] [Enc β]
@[simp] theorem Lc(l:List α):(aH l).length=l.length:=by simp[aH]
@[simp] theorem vo(l:List α):(aT l).length=l.length:=by simp[aT,aH]
@[simp] theorem yl4:aH ([]:List α)=[]:=rfl
@[simp] theorem Rb:aT ([]:List α)=[]:=rfl
@[simp] theorem yjy(x : α)(l:List α):aH (x::l)=enc x::aH l:=rfl
@[simp] theorem ykw(x : α)(l:List α):aT (x::l)=.p (enc x)::aT l:=rfl
@[simp] theorem yjx(l:List α)(n:Nat):(aH l).drop n=aH (l.drop n):=by simp[aH,List.map_drop]
@[simp] theorem yjw(l:List α)(n:Nat):(aH l).take n=aH (l.take n):=by simp[aH,List.map_take]
@[simp] theorem ykv(l:List α)(n:Nat):(aT l).drop n=aT (l.drop n):=by simp[aT,aH,List.map_drop]
@[simp] theorem JT(l:List α)(n:Nat):(aT l).take n=aT (l.take n):=by simp[aT,aH,List.map_take]
@[simp] theorem zX(l r:List α):aT (l++r)=aT l++aT r:=by simp[aT,aH]
@[simp] theorem jE(l:List α):(aH l).map AV.p=aT l:=rfl
def R9(l:List α):∀ v∈aH l,v.sz=Enc.sz α := by intro v b;obtain⟨x,_,rfl⟩:=cD.1 b;exact Enc.ok x
@[simp] theorem z82(n:Nat)(l:List α):xU n (aH l)=((n=Enc.sz α \/ l=[])/\0<n):=by
 simp only[xU,aH,List.all_map,kR,Function.comp_apply,beq_iff_eq,Enc.ok];cases l with
 | nil=>simp
 | cons x l =>
  refine propext ⟨λ⟨h,b⟩=>⟨.inl (h x (by simp)).symm,b⟩,λ⟨h,b⟩=>⟨λy _=>?_,b⟩⟩;obtain h|h:=h
  .exact h.symm
  .cases h
@[simp] theorem yle(n:Nat)(l:List α):vF n (aT l)=((n=Enc.sz α \/ l=[])/\0<n):=by
 have:vF n (aT l)=xU n (aH l):=by
  simp only[vF,xU,aT,List.all_map]
  congr 2
 rw[this,z82]
@[simp] theorem yjs(n:Nat)(v:AV)(l:List AV):vF n (v::l)=(v.sz=n/\vF n l):=by simp[vF,and_assoc]
@[simp] theorem yld(n:Nat):vF n []=(0<n):=by simp[vF]
@[simp] theorem ygf(n:Nat)(l r:List AV):vF n (l++r)=(vF n l/\vF n r):=by simp only[vF,List.all_append,kq];exact propext ⟨λ⟨⟨a,b⟩,c⟩=>⟨⟨a,c⟩,b,c⟩,λ⟨⟨a,c⟩,b,_⟩=>⟨⟨a,b⟩,c⟩⟩
@[simp] theorem ymr(l:List α):(aT l).map AV.fL=aT l:=by simp[-jE,aT,AV.fL]
@[simp] theorem ydd(l:List α)(n:Nat)(f:PV->d'):oK P N Q (.el (aH l) n f) d dd ks=Cx l n λx=>oK P N Q (f (enc x)) d dd ks:=Sb enc l n f
@[simp] theorem yk7(l:List α)(n:Nat)(f:AV->d'):oK P N Q (.el (aT l) n f) d dd ks=Cx l n λx=>oK P N Q (f (.p (enc x))) d dd ks:=by unfold aT;rw[Sb,<- lM,ydd]
@[simp] theorem Zc(l:List α)(n:Nat)(x : α):aT (l.set n x)=(aT l).set n (.p (enc x)):=by simp[-jE,aT,aH,DQ]
@[simp] theorem LG(n:Nat)(x : α):aT (List.replicate n x)=List.replicate n (.p (enc x)):=by simp[-jE,aT,aH]
def BU(l:List α)(n:Nat)(x : α){v:AV}(h:v=.p (enc x)):(aT l).set n v=aT (l.set n x):=by subst h;exact(Zc l n x).symm
@[simp] theorem ym8(n:Nat)(st:St)(v:PV):bE st (n+1) (.p v)=some v:=rfl
@[simp] theorem yg5(n:Nat)(st:St):bE st (n+1) .nil=some (.sl []):=rfl
@[simp] theorem ylc(st:St)(v:PV):bE st aZ (.p v)=some v:=rfl
@[simp] theorem yg7(st:St):bE st aZ .nil=some (.sl []):=rfl
@[simp] theorem Tz(n:Nat)(st:St)(v:PV):aO st n (.p v)=[]:=by cases n<;>rfl
@[simp] theorem yja(n:Nat)(st:St):aO st n .nil=[]:=by cases n<;>rfl
@[simp] theorem Rs(n:Nat)(st:St)(l:List PV):(l.map AV.p).mapM (bE st (n+1))=some l:=by
 induction l with
 | nil=>rfl
 | cons x l b=>simp only[jH,Bf,b];rfl
@[simp] theorem G2(n:Nat)(st:St)(l:List α):(aT l).mapM (bE st (n+1))=some (aH l):=Rs n st _
@[simp] theorem XV(n:Nat)(st:St)(l:List PV):(l.map AV.p).flatMap (aO st n)=[]:=by
 induction l with
 | nil=>rfl
 | cons x l b=>simp only[jH,jG,b,Tz];rfl
@[simp] theorem yfo(n:Nat)(st:St)(l:List α):(aT l).flatMap (aO st n)=[]:=XV n st _
@[simp] theorem V6(st:St)(s g off b:Nat):aO st aZ (.own s g off b)=(s,g)::(match st.obj s g with|some o=>o.es.flatMap (aO st 5)|none=>[]):=rfl
@[simp] theorem yjc(st:St)(s g off b:Nat):aO st aZ (.ptr s g off b)=(s,g)::(match st.obj s g with|some o=>o.es.flatMap (aO st 5)|none=>[]):=rfl
@[simp] theorem Pn(st:St)(s g off b:Nat):bE st aZ (.own s g off b)=match st.obj s g with
  | some o=>if off+b<=o.es.length then(((o.es.drop off).take b).mapM (bE st 5)).map .sl else none
  | none=>none:=rfl
@[simp] theorem yg8(st:St)(cs:List AV):bE st aZ (.agg cs)=(cs.mapM (bE st 5)).map .agg:=rfl
@[simp] theorem yg6(st:St)(cs:List AV):bE st aZ (.bP cs)=(cs.mapM (bE st 5)).map .bP:=rfl
@[simp] theorem yjr(st:St)(f:FuncId)(cs:List AV):bE st aZ (.fn f cs)=(cs.mapM (bE st 5)).map (.fn f):=rfl
def kJ(s:St)(v:AV):RV->Prop
 | .pure p=>bE s aZ v=some p
 | .fresh j h=>match v with
  | .own i g f b=>∃ o,s.obj i g=some o/\f=0/\b=o.es.length/\o.sz=j/\o.es=h.map .p
  | .nil=>h=[]
  | _=>False
 | _=>False
def iG(rs:List (Nat × Option Nat))(b:RV):Exit->St->Prop
 | .ret,s=>∃ f,oE s rs=some f/\kJ s (dB f) b
 | .normal,s=>∃ f,oE s rs=some f/\kJ s (dB f) b
 | _,_=>False
attribute [simp] iG kJ oE AI dB vi CM
def Sp.cS{f:FuncId}{args:List PV}{res:RV}{n np:Nat}{b:GC}{rs:List (Nat × Option Nat)}(r:aV P f=some ⟨n,np,b.er,rs⟩)(hn:args.length<=n)(h:vm P n (iG rs res) [.code b] (vi args)):Sp P f args res:=by
 obtain⟨ex,s,u,j⟩:=lG _ (dK _) h;have key:(ex=.ret\/ex=.normal)/\∃ vs,oE s rs=some vs/\kJ s (dB vs) res:=by
  change iG rs res ex s at j
  cases ex with
  | ret=>exact⟨.inl rfl,j⟩
  | normal=>exact⟨.inr rfl,j⟩
  | _=>exact j.elim
 obtain⟨t,vs,x,i⟩:=key;refine Sp.gA r hn u t x ?_;unfold kJ at i;split at i
 .exact .pure _ _ i
 .split at i
  .rename_i sz es s' g off len k;obtain⟨o,l,rfl,m,rfl,p⟩:=i;rw[k];exact .fresh _ _ _ _ _ l m p
  .rename_i k;rw[k,i];exact .nil _
  .exact i.elim
 .exact i.elim
def L5{b:GC}{γ : Type}(S : γ -> St)(I : γ -> Prop)
  (h:∀ R:Exit->St->Prop,(∀ y s,aA s (S y)->I y->R .normal s)->(∀ s,Q .ret s->R .ret s)->(∀ id s,gI P N Q (fS id ks) id s->R (.exit id) s)->vm P N R [.code b] st)
  (m:∀ y,I y->vm P N Q ks (S y)):eM P N Q (.code b::ks) .normal st:=by
 obtain⟨ex,s,i,j⟩:=lG (P:=P) (N:=N) _ (dK _) (h (λex s=>(ex=.normal->∃ y,aA s (S y)/\I y)/\(ex ≠ .normal->eM P N Q ks ex s)) (λy s k l=>⟨λ_=>⟨y,k,l⟩,λh=>absurd rfl h⟩)
  (λs h=>⟨λh=>(by cases h),λ_=>yz h⟩) (λid s h=>⟨λh=>(by cases h),λ_=>G1 (by simp) h (.inr ⟨id,rfl⟩)⟩))
 by_cases f:ex=.normal
 .subst f;obtain⟨y,n,o⟩:=j.1 rfl;exact⟨.normal,S y,i.sR n,lG _ (dK _) (m y o)⟩
 .exact⟨ex,s,i,j.2 f⟩
end
end Go.Ab
namespace Go.Ab
open Enc (enc)
mutual
def n3:PV->Prop
 | .sl f=>f.length<=maxLen/\rW f
 | .agg b=>rW b
 | .ref v=>n3 v
 | .fn _ b=>rW b
 | .bP h=>rW h
 | _=>True
def rW:List PV->Prop
 | []=>True
 | v::r=>n3 v/\rW r
end
theorem PH:∀ {l r:List PV},rW (l++r) ↔ rW l/\rW r
 | [],r=>by simp[rW]
 | v::l,r=>by simp[rW,PH (l:=l),and_assoc]
def Pd(v:PV)(h:rW v.cells):n3 v:=by cases v<;>simp only[PV.cells,rW,n3,and_true]at h ⊢ <;> exact h
theorem Nz:∀ {es:List PV},rW (es.flatMap PV.cells)->rW es
 | [],_=>trivial
 | e::es,h=>by rw[jG,PH]at h;exact⟨Pd e h.1,Nz h.2⟩
mutual
theorem PRep.rV{M:Nat->Option Obj}:∀ {v:PV} {x:Value},PRep M v x->n3 v
 | _,_,.bool _=>by simp[n3]
 | _,_,.int _ _=>by simp[n3]
 | _,_,.str _=>by simp[n3]
 | _,_,.aK=>by simp[n3]
 | _,_,.any _ _=>by simp[n3]
 | _,_,.nl _=>by simp[n3]
 | _,_,.sle _ _=>by simp[n3]
 | _,_,.fH _=>by simp[n3]
 | _,_,.wN _=>by simp[n3]
 | _,_,.mp _ _ _ _ _ _ _ _ _ _ _=>by simp[n3]
 | _,_,.ry _ _=>by simp[n3,rW]
 | _,_,.sl es b o cap cur T fr sz vals k l m h3 i n p j=>by
  simp only[n3];exact⟨j,Nz (PReps.rV i)⟩
 | _,_,.agg cs vals _ h=>by simp only[n3];exact PReps.rV h
 | _,_,.fn f gW vals h=>by simp only[n3];exact PReps.rV h
 | _,_,.ref v b o cur T fr vals _ _ _ h _=>by simp only[n3];exact Pd v (PReps.rV h)
 | _,_,.bP vs vals h=>by simp only[n3];exact PReps.rV h
theorem PReps.rV{M:Nat->Option Obj}:∀ {v:List PV} {x:List Value},PReps M v x->rW v
 | _,_,.nil=>trivial
 | _,_,.cons v x vs xs h hs=>⟨PRep.rV h,PReps.rV hs⟩
end
section
variable {P:Program} {N:Nat} {Q:Exit->St->Prop} {st:St} {α β : Type} [Enc α] [Enc β]
def Lh{f:FuncId}{C:Bt}(b:aV P f=some C):∃ i,P.funcs[f]?=some i/\i.body.isSome=true/\i.name ≠ "runtime.NumGoroutine" := by
 unfold aV at b;split at b
 .rename_i i k;split at b
  .rename_i h;split at b
   .rename_i c j;exact⟨i,k,by rw[j];rfl,h⟩
   .cases b
  .cases b
 .cases b
def Sp.Cq{f:FuncId}{args:List PV}{res:RV}{n np:Nat}{b:GC}{rs:List (Nat × Option Nat)}(i:aV P f=some ⟨n,np,b.er,rs⟩)(hn:args.length<=n)(h:rW args->vm P n (iG rs res) [.code b] (vi args)):Sp P f args res :=
 ⟨Lh i,λw M vals k j=>(Sp.cS i hn (h j.rV)).2 w M vals k j⟩
def Sp.vz{f:FuncId}{args:List PV}{res:RV}{n np:Nat}{b:GC}{rs:List (Nat × Option Nat)}(i:aV P f=some ⟨n,np,b.er,rs⟩)(h:rW args->vm P n (iG rs res) [.code b] (vi args))(hn:args.length<=n:=by simp):Sp P f args res:=Sp.Cq i hn h
def YB{es:List PV}(h:n3 (.sl es)):es.length<=maxLen:=by simp only[n3]at h;exact h.1
def EI{l:List α}(h:n3 (.sl (aH l))):l.length<=9223372036854775807:=by have:=YB h;simpa[Lc,maxLen]using this
end
@[simp] theorem Oa(n:Int):IntKind.u32.wrap n=n % 4294967296:=by simp[IntKind.wrap,IntKind.signed,IntKind.bits]
@[simp] theorem Ob(n:Int):IntKind.u64.wrap n=n % 18446744073709551616:=by simp[IntKind.wrap,IntKind.signed,IntKind.bits]
@[simp] theorem ykx(n:Int):IntKind.u8.wrap n=n % 256:=by simp[IntKind.wrap,IntKind.signed,IntKind.bits]
def wrap_i64(n:Int):IntKind.i64.wrap n=(n+9223372036854775808) % 18446744073709551616 - 9223372036854775808:=by rw[IntKind.wrap_i64]
def cG{n:Int}(b : -9223372036854775808<=n)(f:n<=9223372036854775807):IntKind.i64.wrap n=n:=IntWalk.i64_in n ⟨b,f⟩
def bH(k:Nat)(h:(k:Int)<=9223372036854775806:=by omega):IntKind.i64.wrap ((k:Int)+1)=((k+1:Nat):Int):=by rw[cG (by omega) (by omega)];omega
def b5{n:Int}(h : -9223372036854775808<=n:=by omega)(k:n<=9223372036854775807:=by omega):IntKind.i64.wrap n=n:=cG h k
section
variable {α : Type} [Enc α] {st st':St}
attribute [simp] St.xR St.mU Db aD nA wY Ep dW eV pK kX vT aL bG fP HO eS
@[simp] theorem yjv(b:List Nat)(ids:List ((Nat × Nat) × Nat))(l:List α):eV b ids (aT l)=aT l:=Tq _
@[simp] theorem yd9(b:List Nat)(ids:List ((Nat × Nat) × Nat))(l r:List AV):eV b ids (l++r)=eV b ids l++eV b ids r:=by simp[tU]
@[simp] theorem z8k(b:List Nat)(ids:List ((Nat × Nat) × Nat))(n:Nat)(v:AV):eV b ids (List.replicate n v)=List.replicate n (dW b ids v):=by simp[tU]
@[simp] theorem yju(b:List Nat)(ids:List ((Nat × Nat) × Nat))(l:List AV)(n:Nat)(v:AV):eV b ids (l.set n v)=(eV b ids l).set n (dW b ids v):=by simp[tU,DQ]
@[simp] theorem ygg(ks:List Nat)(l:List α):kX ks (aT l)=true:=by rw[xO,kR];intro v b;simp only[aT,cD]at b;obtain⟨p,_,rfl⟩:=b;rfl
def aA.cU(keep c5:List Nat)(ids:List ((Nat × Nat) × Nat))(h:st.mU keep c5 ids=some st'):aA st st':=aA.TM h
def aA.to(keep:List Nat)(ids:List ((Nat × Nat) × Nat))(h:st.xR keep ids=some st'):aA st st':=aA.of h
def aA.nl(t s sz:Nat){st1:St}(h:st.lV t s sz=some st1)(k:aA st1 st'):aA st st':=(aA.Ai h).trans k
end
theorem As{w:Nat}{x:Nat}(h:x<2^w):(BitVec.ofInt w (x:Int)).toNat=x:=by rw[BitVec.toNat_ofInt];rw[Int.emod_eq_of_lt (by omega) (by exact_mod_cast h)];rfl
def Js{x y:Nat}(b:x<18446744073709551616)(f:y<18446744073709551616):Ec .u64 x y=((x ||| y:Nat):Int):=by have:=Mh (n:=64) (x:=x) (y:=y) b f;show IntKind.u64.wrap (BitVec.ofInt 64 x ||| BitVec.ofInt 64 y).toNat=_;rw[Ob,BitVec.toNat_or,As (by exact b),As (by exact f)];omega
def RL{x y:Nat}(b:x<4294967296)(f:y<4294967296):Ec .u32 x y=((x ||| y:Nat):Int):=by have:=Mh (n:=32) (x:=x) (y:=y) b f;show IntKind.u32.wrap (BitVec.ofInt 32 x ||| BitVec.ofInt 32 y).toNat=_;rw[Oa,BitVec.toNat_or,As (by exact b),As (by exact f)];omega
def yb8{x y:Nat}(f:x<18446744073709551616)(b:y<18446744073709551616):Ar .u64 x y=((x &&& y:Nat):Int):=by have:=Nat.and_lt_two_pow (n:=64) x (y:=y) b;show IntKind.u64.wrap (BitVec.ofInt 64 x &&& BitVec.ofInt 64 y).toNat=_;rw[Ob,BitVec.toNat_and,As (by exact f),As (by exact b)];omega
def yb9{x y:Nat}(f:x<4294967296)(b:y<4294967296):Ar .u32 x y=((x &&& y:Nat):Int):=by have:=Nat.and_lt_two_pow (n:=32) x (y:=y) b;show IntKind.u32.wrap (BitVec.ofInt 32 x &&& BitVec.ofInt 32 y).toNat=_;rw[Oa,BitVec.toNat_and,As (by exact f),As (by exact b)];omega
def z49{x y k:Nat}(h:y<2^k):(x*2^k) ||| y=x*2^k+y:=by rw[<- Nat.shiftLeft_eq,Nat.shiftLeft_add_eq_or_of_lt h]
def ZN{x y k:Nat}(h:y<2^k):y ||| (x*2^k)=x*2^k+y:=by rw[Nat.or_comm,z49 h]
@[simp] theorem ygz(x:UInt32):(x.toNat:Int) % 18446744073709551616=x.toNat:=by have:=x.toNat_lt;omega
@[simp] theorem yg0(x:UInt32):(x.toNat:Int) % 4294967296=x.toNat:=by have:=x.toNat_lt;omega
@[simp] theorem ygy(x:UInt64):(x.toNat:Int) % 18446744073709551616=x.toNat:=by have:=x.toNat_lt;omega
def S9(x y:Nat):((x:Nat):Int).tdiv (y:Int)=((x / y:Nat):Int):=by rw[Int.tdiv_eq_ediv_of_nonneg (by omega)];exact(Int.natCast_ediv x y).symm
def HP(x y:Nat):((x:Nat):Int).tmod (y:Int)=((x % y:Nat):Int):=by rw[Int.tmod_eq_emod_of_nonneg (by omega)];exact(Int.natCast_emod x y).symm
def LZ{r x k:Nat}(f:r*2^k<18446744073709551616)(h:x<2^k)(b:x<18446744073709551616):Ec .u64 ((r:Int)*2^k % 18446744073709551616) x=((r*2^k+x:Nat):Int):=by
 have e:((r:Int)*2^k % 18446744073709551616)=((r*2^k:Nat):Int):=by
  have:((r:Int)*2^k)=((r*2^k:Nat):Int):=by simp
  rw[this];omega
 rw[e,Js f b,z49 h]
def ZO{r x k:Nat}(f:r*2^k<18446744073709551616)(h:x<2^k)(b:x<18446744073709551616):Ec .u64 x ((r:Int)*2^k % 18446744073709551616)=((r*2^k+x:Nat):Int):=by
 have e:((r:Int)*2^k % 18446744073709551616)=((r*2^k:Nat):Int):=by
  have:((r:Int)*2^k)=((r*2^k:Nat):Int):=by simp
  rw[this];omega
 rw[e,Js b f,ZN h]
section
variable {st:St} {α : Type} [Enc α]
def uF{s g n sz:Nat}{es:List AV}{l:List α}(f:st.obj s g=some ⟨sz,es⟩)(b:es=aT l)(hn:n=l.length):bE st aZ (.own s g 0 n)=some (.sl (aH l)):=by subst b hn;simp only[Pn,f,vo,qW,dK,cB,yJ,JT,lO,G2,DX]
theorem lH{v:AV}{vs:List AV}{p:PV}{ps:List PV}(h:bE st aZ v=some p)(k:vs.mapM (bE st aZ)=some ps):(v::vs).mapM (bE st aZ)=some (p::ps):=by simp only[Bf,h,k];rfl
theorem pL:([]:List AV).mapM (bE st aZ)=some []:=rfl
end
attribute [simp] St.put St.lV
@[simp] theorem yg4(n:Nat)(st:St)(cs:List AV):bE st (n+1) (.agg cs)=(cs.mapM (bE st n)).map .agg:=rfl
@[simp] theorem yg2(n:Nat)(st:St)(cs:List AV):bE st (n+1) (.bP cs)=(cs.mapM (bE st n)).map .bP:=rfl
@[simp] theorem yjq(n:Nat)(st:St)(f:FuncId)(cs:List AV):bE st (n+1) (.fn f cs)=(cs.mapM (bE st n)).map (.fn f):=rfl
@[simp] theorem yg3(n:Nat)(st:St)(s g off b:Nat):bE st (n+1) (.own s g off b)=match st.obj s g with
  | some o=>if off+b<=o.es.length then(((o.es.drop off).take b).mapM (bE st n)).map .sl else none
  | none=>none:=rfl
@[simp] theorem V8(n:Nat)(st:St)(s g off b:Nat):aO st (n+1) (.own s g off b)=(s,g)::(match st.obj s g with|some o=>o.es.flatMap (aO st n)|none=>[]):=rfl
@[simp] theorem yi8(n:Nat)(st:St)(s g off b:Nat):aO st (n+1) (.ptr s g off b)=(s,g)::(match st.obj s g with|some o=>o.es.flatMap (aO st n)|none=>[]):=rfl
@[simp] theorem yi9(n:Nat)(st:St)(cs:List AV):aO st (n+1) (.agg cs)=cs.flatMap (aO st n):=rfl
@[simp] theorem yjd(st:St)(cs:List AV):aO st aZ (.agg cs)=cs.flatMap (aO st 5):=rfl
@[simp] theorem yku(st:St)(f:FuncId)(cs:List AV):aO st aZ (.fn f cs)=cs.flatMap (aO st 5):=rfl
section
variable {P:Program} {K:Ctx} {Z Z':Cz} {st st' st1 st2:St} {w w':World} {a:Act} {N:Nat} {ex:Exit}
def aN.root(hs:aN K Z st w a):aN ⟨w,Z.M,lD Z st,K.N⟩ Z st w a :=
 ⟨hs.aR,hs.defers,hs.size,⟨hs.heap.bR,hs.heap.inj,hs.heap.mem,hs.heap.sep,λs g o _ f b=>.inl ⟨s,g,o,f,b⟩,λ_ _ h=>h,λ_ _ h=>.inl h,Keep.refl w _⟩⟩
def aN.rN{p:Act}(hs:aN K Z st w a)(f:aN ⟨w,Z.M,lD Z st,K.N⟩ Z' st' w' p):aN K Z' st' w' p:=by
 have i:∀ b,lD Z st b->K.X0 b\/K.w0.heap.size<=b:=λb ⟨s,g,o,n,k⟩=>hs.heap.own s g o b n k;have m:=hs.heap.keep.size;refine⟨f.aR,f.defers,f.size,⟨f.heap.bR,f.heap.inj,f.heap.mem,f.heap.sep,λs g o b n k=>?_,λb o h=>f.heap.m0 b o (hs.heap.m0 b o h),λb o h=>?_,?_⟩⟩
 .obtain h|h:=f.heap.own s g o b n k
  .exact i b h
  .exact .inr (dP m h)
 .obtain h|h|h:=f.heap.eE b o h
  .exact hs.heap.eE b o h
  .obtain h|h:=i b h
   .exact .inr (.inl h)
   .exact .inr (.inr h)
  .exact .inr (.inr (dP m h))
 .have j:=hs.heap.keep;have l:=f.heap.keep;refine⟨l.os.trans j.os,l.tape.trans j.tape,l.output.trans j.output,dP j.drawn l.drawn,dP j.size l.size,λb k r=>?_⟩;rw[l.bU b (iC k j.size) (λh=>by obtain h|h:=i b h;exact r h;omega),j.bU b k r]
def sj.later{n:Act}{r:Nat}(i:sj Z st w r)(b:aN ⟨w,Z.M,lD Z st,N⟩ Z' st' w' n):sj Z' st' w' r/\w'.heap[r]?=w.heap[r]?:=by
 have f:¬ lD Z st r:=λ⟨s,g,o,l,k⟩=>i.o s g o l k;refine⟨⟨?_,λs g o l k=>?_,iC i.lt b.heap.keep.size⟩,b.heap.keep.bU r i.lt f⟩
 .cases hm:Z'.M r with
  | none=>rfl
  | some o =>
   obtain h|h|h:=b.heap.eE r o hm
   .have j:Z.M r=some o:=h;rw[i.m]at j;cases j
   .exact absurd h f
   .have j:w.heap.size<=r:=h;have:=i.lt;omega
 .obtain h|h:=b.heap.own s g o r l k
  .exact f h
  .have j:w.heap.size<=r:=h;have:=i.lt;omega
structure mI (Z:Cz) (st:St) (w:World) (Z':Cz) (st':St) (w':World):Prop where
 M:∀ b o,Z.M b=some o->Z'.M b=some o
 f:∀ r,sj Z st w r->sj Z' st' w' r/\w'.heap[r]?=w.heap[r]?
 Ag:cV Z st Z' st'
def mI.trans{i Z2 j:Cz}{s1 l m:St}{w1 w2 w3:World}(h:mI i s1 w1 Z2 l w2)(k:mI Z2 l w2 j m w3):mI i s1 w1 j m w3 :=
 ⟨λb o e=>k.M b o (h.M b o e),λr s=>by obtain⟨n,p⟩:=h.f r s;obtain⟨t,u⟩:=k.f r n;exact⟨t,u.trans p⟩,h.Ag.trans k.Ag⟩
def cT.frame{ac:AC}{code:Code}{Q:Exit->Act->World->Prop}(h:cT P N ac st ex st')(k:comp P N code=some ac)(i:K.N=N)(hs:aN K Z st w a)
  (j:∀ Z' w' f,aN K Z' st' w' f->cV Z st Z' st'->mI Z st w Z' st' w'->Q ex f w'):code.wp P Q a w:=by
 subst i;refine h code k ⟨w,Z.M,lD Z st,K.N⟩ Z w a Q rfl hs.root λZ' w' f b hp=>j Z' w' f (hs.rN b) hp ⟨b.heap.m0,λr l=>l.later b,hp⟩
end
def Fx(s:St)(v:AV)(n:Nat):RV->Prop
 | .pure p=>bE s aZ v=some p/\(bG,0)∉aO s aZ v
 | .same l=>v=.own bG 0 0 l/\l<=n
 | _=>False
def Cn(rs:List (Nat × Option Nat))(sz:Nat)(b:List PV)(n:Nat)(f:RV):Exit->St->Prop
 | .ret,s=>∃ h,oE s rs=some h/\s.obj bG 0=some ⟨sz,b.map .p⟩/\Fx s (dB h) n f
 | .normal,s=>∃ h,oE s rs=some h/\s.obj bG 0=some ⟨sz,b.map .p⟩/\Fx s (dB h) n f
 | _,_=>False
attribute [simp] Cn Fx xc CT wC mf
section
variable {P:Program} {N:Nat} {st:St}
def jD.cS{f:FuncId}{args:List PV}{i sz:Nat}{p:PV}{j:List PV}{res:RV}{n np:Nat}{b:GC}{rs:List (Nat × Option Nat)}(t:aV P f=some ⟨n,np,b.er,rs⟩)(hn:args.length<=n)(hp:args[i]?=some p)(l:j.length=(mf p).length)
  (h:vm P n (Cn rs sz j (mf p).length res) [.code b] (xc args i sz p)):jD P f args i sz j res:=by
 obtain⟨ex,s,x,m⟩:=lG _ (dK _) h;have key:(ex=.ret\/ex=.normal)/\∃ vs,oE s rs=some vs/\s.obj bG 0=some ⟨sz,j.map .p⟩/\Fx s (dB vs) (mf p).length res:=by
  change Cn rs sz j (mf p).length res ex s at m
  cases ex with
  | ret=>exact⟨.inl rfl,m⟩
  | normal=>exact⟨.inr rfl,m⟩
  | _=>exact m.elim
 obtain⟨u,vs,y,z,k⟩:=key;refine jD.gA t hn hp x u y z l ?_;unfold Fx at k;split at k
 .exact .pure _ _ _ k.1 k.2
 .obtain⟨o,r⟩:=k;rw[o];exact .same _ _ r
 .exact k.elim
theorem sE{f:FuncId}{e:Nat}{vs:List AV}{args:List PV}{i sz:Nat}{b:List PV}{r:PV}{K:bI->AV->St->Prop}(hs:jD P f args i sz b (.pure r))(C:vs.mapM (bE st aZ)=some args)
  {s g h:Nat} {sl:Bool} (m:AG vs[i]?=some (s,g,h,sl)) {o:bD} (z:st.obj s g=some o) (x:i<vs.length) (y:h=o.es.length) (n:b.length=h) (u:o.sz=sz) (j:b.all (λv=>v.sz == sz)=true) (l:(b.flatMap PV.cells).all PV.one=true)
  (t:((vs.eraseIdx i).flatMap (aO st aZ)++o.es.flatMap (aO st 5)).contains (s,g)=false)
  (k:K ⟨f,args,.pure r,some (i,sz,b)⟩ (.p r) ((if (r.nL&&b.all PV.flat)=true then st else aJ st ((vs.eraseIdx i).flatMap (aO st aZ)++o.es.flatMap (aO st 5))).setObj s g ⟨sz,b.map .p⟩)):vP P st e f vs K:=by
 refine⟨⟨f,args,.pure r,some (i,sz,b)⟩,hs,.p r,_,(Hz (c:=⟨f,args,.pure r,some (i,sz,b)⟩) C).trans ?_,k⟩;simp only[yq,za,m,z];rw[aW ⟨x,y,n,u,j,l,t⟩];rfl
theorem Ps{f:FuncId}{e:Nat}{vs:List AV}{args:List PV}{i sz:Nat}{b:List PV}{l:Nat}{K:bI->AV->St->Prop}(hs:jD P f args i sz b (.same l))(D:vs.mapM (bE st aZ)=some args)
  {s g h:Nat} (n:AG vs[i]?=some (s,g,h,true)) {o:bD} (C:st.obj s g=some o) (y:i<vs.length) (z:h=o.es.length) (r:b.length=h) (x:o.sz=sz) (j:b.all (λv=>v.sz == sz)=true) (m:(b.flatMap PV.cells).all PV.one=true)
  (u:((vs.eraseIdx i).flatMap (aO st aZ)++o.es.flatMap (aO st 5)).contains (s,g)=false) (t:l<=h)
  (k:K ⟨f,args,.same l,some (i,sz,b)⟩ (.own s g 0 l) ((if (true&&b.all PV.flat)=true then st else aJ st ((vs.eraseIdx i).flatMap (aO st aZ)++o.es.flatMap (aO st 5))).setObj s g ⟨sz,b.map .p⟩)):vP P st e f vs K:=by
 refine⟨⟨f,args,.same l,some (i,sz,b)⟩,hs,.own s g 0 l,_,(Hz (c:=⟨f,args,.same l,some (i,sz,b)⟩) D).trans ?_,k⟩;simp only[yq,za,n,C];rw[aW ⟨y,z,r,x,j,m,u⟩,aW ⟨t,trivial⟩];rfl
end
@[simp] theorem yjb(st:St)(vs:List AV):aO st aZ (.bP vs)=vs.flatMap (aO st 5):=rfl
def AE{P:Program}{N:Nat}{Q:Exit->St->Prop}{b:GC}{ks:List Kt}{st:St}
  (h:∀ R:Exit->St->Prop,(∀ s,vL P N Q b ks s->R .normal s)->(∀ s,Q .ret s->R .ret s)->(∀ id s,gI P N Q (fS id ks) id s->R (.exit id) s)->vm P N R [.code b] st):vL P N Q b ks st:=by
 obtain⟨ex,s,i,j⟩:=lG (P:=P) (N:=N) _ (dK _) (h (λex s=>(ex=.normal->vL P N Q b ks s)/\(ex ≠ .normal->eM P N Q ks ex s)) (λs h=>⟨λ_=>h,λh=>absurd rfl h⟩)
  (λs h=>⟨λh=>(by cases h),λ_=>yz h⟩) (λid s h=>⟨λh=>(by cases h),λ_=>G1 (by simp) h (.inr ⟨id,rfl⟩)⟩))
 by_cases f:ex=.normal
 .subst f;obtain⟨ex,m,k,l⟩:=j.1 rfl;exact⟨ex,m,.next _ _ _ _ i k,l⟩
 .exact⟨ex,s,.out _ _ _ i f,j.2 f⟩
section
variable {α : Type} [Enc α]
def cells_one(h:∀ x : α,(enc x).cells.all PV.one=true)(l:List α):((aH l).flatMap PV.cells).all PV.one=true:=by simp only[kR,kv];rintro c ⟨v,f,b⟩;obtain⟨x,_,rfl⟩:=cD.1 f;exact kR.1 (h x) c b
def nE(l:List α)(n:Nat)(h:Enc.sz α = n):(aH l).all (λv=>v.sz == n)=true:=by simp only[kR,beq_iff_eq];intro v b;rw[R9 l v b,h]
end
section
variable {P:Program} {N:Nat} {st st1:St}
def aA.eU{t n:Nat}{v:PV}(h:st.get t=.p (.ref v))(hn:v.sz=n):aA st ⟨(t,.cp v n 0)::st.sl,st.hp⟩:=by
 intro K Z w a hs;have k:∀ s g,(⟨(t,.cp v n 0)::st.sl,st.hp⟩:St).obj s g=st.obj s g:=λ_ _=>rfl;have hz:cO Z st Z ⟨(t,.cp v n 0)::st.sl,st.hp⟩:=⟨λ_ _ h=>h,λ_=>dK _,λ_ _ _ h=>h,λ_ _ o h=>.inr ⟨o,h,rfl,rfl,rfl,rfl⟩⟩;refine⟨Z,⟨λf=>?_,hs.defers,hs.size,⟨λs g o y=>(hs.heap.bR s g o y).later hz rfl rfl (λ_ _=>rfl),hs.heap.inj,hs.heap.mem,hs.heap.sep,hs.heap.own,hs.heap.m0,hs.heap.eE,hs.heap.keep⟩⟩,cV.dR hz⟩;by_cases l:f=t
 .subst l;have j:=hs.aR f;rw[h]at j;have i:(⟨(f,.cp v n 0)::st.sl,st.hp⟩:St).get f=.cp v n 0:=by simp[St.get,look]
  rw[i];generalize a.tmps.getD f Go.undef=x at j;cases j.cA with
  | ref _ b o cur T fr vals m z r h3 u=>exact .cp v n 0 b o cur T fr vals m (by omega) hn r (aG.oT (Z:=Z) (st:=st) (aG.lS h3)) u
 .have i:(⟨(t,.cp v n 0)::st.sl,st.hp⟩:St).get f=st.get f:=by simp[St.get,look,v8 l]
  rw[i];exact(hs.aR f).mono hz
def Sp.gU{f:FuncId}{args:List PV}{res:RV}{n np:Nat}{b:GC}{rs:List (Nat × Option Nat)}(r:aV P f=some ⟨n,np,b.er,rs⟩)(hn:args.length<=n)(t:aA (vi args) st1)(h:vm P n (iG rs res) [.code b] st1):Sp P f args res:=by
 obtain⟨ex,s,x,j⟩:=lG _ (dK _) h;have key:(ex=.ret\/ex=.normal)/\∃ vs,oE s rs=some vs/\kJ s (dB vs) res:=by
  change iG rs res ex s at j
  cases ex with
  | ret=>exact⟨.inl rfl,j⟩
  | normal=>exact⟨.inr rfl,j⟩
  | _=>exact j.elim
 obtain⟨u,vs,y,i⟩:=key;refine Sp.gA r hn (cT.nH t x) u y ?_;unfold kJ at i;split at i
 .exact .pure _ _ i
 .split at i
  .rename_i sz es s' g off len k;obtain⟨o,l,rfl,m,rfl,p⟩:=i;rw[k];exact .fresh _ _ _ _ _ l m p
  .rename_i k;rw[k,i];exact .nil _
  .exact i.elim
 .exact i.elim
end
mutual
def PV.cL:PV->Bool
 | .sl es=>jQ es
 | .agg cs=>jQ cs
 | .fn _ cs=>jQ cs
 | .ref v=>v.cL
 | .bP vs=>jQ vs
 | .mp _ _ _=>false
 | _=>true
def jQ:List PV->Bool
 | []=>true
 | v::r=>v.cL&&jQ r
end
theorem yB:∀ {l:List PV},jQ l=true ↔ ∀ v∈l,v.cL=true
 | []=>by simp[jQ]
 | v::l=>by simp[jQ,yB (l:=l)]
def Lr{v:PV}(h:v.cL=true):jQ v.cells=true:=by cases v<;>simp_all[PV.cells,jQ,PV.cL]
def T9{es:List PV}(h:jQ es=true):jQ (es.flatMap PV.cells)=true:=by rw[yB]at h ⊢;intro c b;obtain⟨e,f,b⟩:=kv.1 b;exact yB.1 (Lr (h e f)) c b
mutual
theorem PRep.cL{M M':Nat->Option Obj}(i:∀ b cur T fr,M b=some (.cells cur T fr)->M' b=some (.cells cur T fr)):∀ {v:PV} {x:Value},PRep M v x->v.cL=true->PRep M' v x
 | _,_,.bool _,_=>.bool _
 | _,_,.int _ _,_=>.int _ _
 | _,_,.str _,_=>.str _
 | _,_,.aK,_=>.aK
 | _,_,.any _ h,_=>.any _ h
 | _,_,.nl _,_=>.nl _
 | _,_,.sle _ _,_=>.sle _ _
 | _,_,.fH _,_=>.fH _
 | _,_,.wN _,_=>.wN _
 | _,_,.mp _ _ _ _ _ _ _ _ _ _ _,hn=>by simp[PV.cL]at hn
 | _,_,.ry _ _,_=>.ry _ _
 | _,_,.sl es b o cap cur T fr sz vals k j l h3 m n p r,hn=>.sl es b o cap cur T fr sz vals (i _ _ _ _ k) j l h3 (PReps.cL i m (T9 (by simpa[PV.cL]using hn))) n p r
 | _,_,.agg cs vals j h,hn=>.agg cs vals j (PReps.cL i h (by simpa[PV.cL]using hn))
 | _,_,.fn f gW vals h,hn=>.fn f gW vals (PReps.cL i h (by simpa[PV.cL]using hn))
 | _,_,.ref v b o cur T fr vals k j l h3 m,hn=>.ref v b o cur T fr vals (i _ _ _ _ k) j l (PReps.cL i h3 (Lr (by simpa[PV.cL]using hn))) m
 | _,_,.bP vs vals h,hn=>.bP vs vals (PReps.cL i h (by simpa[PV.cL]using hn))
theorem PReps.cL{M M':Nat->Option Obj}(f:∀ b cur T fr,M b=some (.cells cur T fr)->M' b=some (.cells cur T fr)):∀ {v:List PV} {x:List Value},PReps M v x->jQ v=true->PReps M' v x
 | _,_,.nil,_=>.nil
 | _,_,.cons v x vs xs h hs,hn=>.cons _ _ _ _ (PRep.cL f h (by simp only[jQ,kq]at hn;exact hn.1)) (PReps.cL f hs (by simp only[jQ,kq]at hn;exact hn.2))
end
structure FA where
 r:Nat
 p:(Nat->Option Obj)->Option Obj->Prop
 mono:∀ M M' o,(∀ b x,M b=some x->M' b=some x)->p M o->p M' o
 fz:Bool:=false
 nb:Bool:=false
 Ag:Ctx->Cz->St->World->Prop:=λ_ _ _ _=>True
 F1:∀ K Z st w Z' st' w',mI Z st w Z' st' w'->Ag K Z st w->Ag K Z' st' w':=by intros;trivial
def nM(A:Option FA)(K:Ctx)(Z:Cz)(st:St)(w:World):Prop :=
 match A with
 | none=>True
 | some A=>match A.nb with
  | true=>A.Ag K Z st w
  | false=>match A.fz with
  | true=>K.M0 A.r=none/\(K.X0 A.r\/K.w0.heap.size<=A.r)
  | false=>sj Z st w A.r/\(K.X0 A.r\/K.w0.heap.size<=A.r)/\A.p Z.M (w.heap[A.r]?)
section
variable {P:Program} {K:Ctx} {Z Z':Cz} {st st' st1 st2:St} {w w':World} {a:Act} {N:Nat} {ex:Exit} {A B:Option FA} {Post Bs:Exit->St->Option FA->Prop} {b4:St->Option FA->Prop}
theorem nM.later(h:nM A K Z st w)(hl:mI Z st w Z' st' w'):nM A K Z' st' w':=by
 cases A with
 | none=>trivial
 | some A =>
  unfold nM at h ⊢;simp only at h ⊢;cases hn:A.nb with
  | true=>rw[hn]at h;exact A.F1 _ _ _ _ _ _ _ hl h
  | false =>
  rw[hn]at h;simp only at h ⊢;cases hz:A.fz with
  | true=>rw[hz]at h;exact h
  | false =>
   rw[hz]at h;obtain⟨b,i,h3⟩:=h;obtain⟨j,k⟩:=hl.f _ b;refine⟨j,i,?_⟩;rw[k];exact A.mono _ _ _ hl.M h3
def aA.frame(h:aA st st')(hs:aN K Z st w a):∃ Z',aN K Z' st' w a/\mI Z st w Z' st' w:=by obtain⟨Z',b,f⟩:=h _ _ _ _ hs.root;exact⟨Z',hs.rN b,⟨b.heap.m0,λr i=>i.later b,f⟩⟩
def pW(P:Program)(N:Nat)(i:Ins)(st:St)(A:Option FA)(Post:St->Option FA->Prop):Prop :=
 ∀ (b:Array Oper) (j:Nat) (o:Oper) (K:Ctx) (Z:Cz) (w:World) (a:Act) (Q:Exit->Act->World->Prop) (Kt:Act->World->Prop),K.N=N->b[j]?=some o->xa P N b o=some i->aN K Z st w a->nM A K Z st w ->
  (∀ st' f Z' w' h,Post st' f->aN K Z' st' w' h->nM f K Z' st' w'->Kt h w')->wpOp P b Q j Kt a w
def eD(P:Program)(N:Nat):List Ins->St->Option FA->(St->Option FA->Prop)->Prop
 | [],st,A,Post=>∃ st1,aA st st1/\Post st1 A
 | i::b,st,A,Post=>pW P N i st A λs B=>eD P N b s B Post
def MR(P:Program)(N:Nat)(ac:AC)(st:St)(A:Option FA)(Post:Exit->St->Option FA->Prop):Prop :=
 ∀ b,comp P N b=some ac->∀ (K:Ctx) (Z:Cz) (w:World) (a:Act) (Q:Exit->Act->World->Prop),K.N=N->aN K Z st w a->nM A K Z st w ->
  (∀ ex st' f Z' w' h,Post ex st' f->aN K Z' st' w' h->nM f K Z' st' w'->Q ex h w')->b.wp P Q a w
theorem pW.nat{orc:Option bI}{i:Ins}(f:wU P orc)(p:exec orc st i=some st')(k:b4 st' A):pW P N i st A b4:=by intro ops j o K Z w a Q Kt m s n hs h l;subst m;refine Gr (K:=⟨w,Z.M,lD Z st,K.N⟩) s n hs.root f p λZ' w' u b hp=>?_;exact l _ _ _ _ _ k (hs.rN b) (h.later ⟨b.heap.m0,λr t=>t.later b,hp⟩)
theorem pW.eg{i:Ins}(h:aA st st1)(k:pW P N i st1 A b4):pW P N i st A b4:=by intro ops j o K Z w a Q Kt n r p hs l m;obtain⟨Z',b,f⟩:=h.frame hs;exact k ops j o K Z' w a Q Kt n r p b (l.later f) m
theorem eD.run{is b:List Ins}{fs:List FP}(h:rG P is fs st st')(k:eD P N b st' A b4):eD P N (is++b) st A b4:=by
 induction h with
 | nil=>exact k
 | cons orc i is f fs st s1 st' j l n h3 m=>exact .nat j l (m k)
theorem MR.eg{ac:AC}(h:aA st st1)(k:MR P N ac st1 A Post):MR P N ac st A Post:=by intro code m K Z w a Q j hs i l;obtain⟨Z',b,f⟩:=h.frame hs;exact k code m K Z' w a Q j b (i.later f) l
theorem MR.gA{ac:AC}(h:cT P N ac st ex st')(k:Post ex st' A):MR P N ac st A Post:=by intro code l K Z w a Q i hs f j;exact h.frame l i hs λZ' w' m b _ hl=>j _ _ _ _ _ _ k b (f.later hl)
def MR.cS{b:GC}(h:vm P N (λex s=>Post ex s A) [.code b] st):MR P N b.er st A Post:=by obtain⟨ex,s,f,i⟩:=lG _ (dK _) h;exact .gA f i
theorem MR.mono{ac:AC}(h:MR P N ac st A Post)(k:∀ ex s B,Post ex s B->Bs ex s B):MR P N ac st A Bs :=
 λcode l K Z w a Q i hs f j=>h code l K Z w a Q i hs f λex st' A' Z' w' b hp=>j ex st' A' Z' w' b (k _ _ _ hp)
theorem MR.seq{x y:AC}(h:MR P N x st A λex s B=>(ex=.normal->MR P N y s B Post)/\(ex ≠ .normal->Post ex s B)):MR P N (.seq x y) st A Post:=by
 intro code r K Z w a Q i hs p j;obtain⟨l,m,rfl,n,o⟩:=JD r;refine wp_seq (h l n K Z w a _ i hs p λex st' A' Z' w' k hp f b=>?_);cases ex with
 | normal=>exact hp.1 rfl m o K Z' w' k Q i f b j
 | _=>exact j _ _ _ _ _ _ (hp.2 (by simp)) f b
theorem MR.cond{x y:AC}{c:bL}{t:Bool}(u:st.ev c=.p (.bool t))(h:MR P N (if t then x else y) st A Post):MR P N (.cond c x y) st A Post:=by
 intro code s K Z w a Q f hs b i;obtain⟨o,k,l,rfl,m,n,r⟩:=Sd s;have j:=fD m hs;rw[u]at j;refine wp_cond j.fO ?_;cases t with
 | true=>exact h k n K Z w a Q f hs b i
 | false=>exact h l r K Z w a Q f hs b i
def Ng(id:Nat):Exit->Exit
 | .exit j=>if j=id then .normal else .exit j
 | e=>e
theorem MR.bU{x:AC}{id:Nat}(h:MR P N x st A λex s B=>Post (Ng id ex) s B):MR P N (.bU id x) st A Post:=by
 intro code o K Z w a Q m hs l n;obtain⟨b,rfl,k⟩:=Gp o;refine wp_block (h b k K Z w a _ m hs l λex st' A' Z' w' r hp i f=>?_);have hq:=n _ _ _ _ _ _ hp i f;cases ex with
 | exit j=>by_cases p:j=id<;>simp only[Ng,p,cB,fQ,Exit.inBlock]at hq ⊢ <;> exact hq
 | _=>exact hq
def MR.ext{id:Nat}(h:Post (.exit id) st A):MR P N (.ext id) st A Post:=.gA .ext h
def MR.iX(h:Post .normal st A):MR P N .iX st A Post:=.gA .iX h
theorem MR.cY{is:List Ins}(h:eD P N is st A λs B=>Post .normal s B):MR P N (.cY is) st A Post:=by
 intro code b K Z w a Q I hs n J;cases code<;>simp only[comp]at b
 case region id ops m =>
  split at b
  .split at b
   .obtain⟨l,_,f⟩:=cM b;cases f
   .cases b
  .rename_i hd;obtain⟨l,y,f⟩:=cM b;cases f;have:m=false:=by simpa using hd
   subst this;refine wp_region ?_;subst I;obtain⟨hl,hi⟩:=BW y
   have key:∀ (is:List Ins) (R:List Nat),R.length=is.length->(∀ (k x:Nat) (i:Ins),R[k]?=some x->is[k]?=some i->∃ o,ops[x]?=some o/\xa P K.N ops o=some i)->∀ (st:St) (A:Option FA) (Z:Cz) (w:World) (a:Act),
     eD P K.N is st A (λs B=>Post .normal s B)->aN K Z st w a->nM A K Z st w->wpOps P ops Q R a w:=by
    intro is
    induction is with
    | nil=>intro R t _ st A Z w a h hs n;cases R with
     | nil =>
      obtain⟨st1,L,hp⟩:=h;obtain⟨Z',y,f⟩:=L.frame hs;exact J _ _ _ _ _ _ hp y (n.later f)
     | cons _ _=>simp at t
    | cons i is M=>intro R t G st A Z w a h hs n;cases R with
     | nil=>simp at t
     | cons x R =>
      obtain⟨o,u,r⟩:=G 0 x i rfl rfl;rw[wpOps_cons];exact h ops x o K Z w a Q _ rfl u r hs n λst' A' Z' w' H hp F z=>M R (by simpa using t) (λk x i D hi=>G (k+1) x i (by simpa using D) (by simpa using hi)) st' A' Z' w' H hp F z
   refine key is (List.range ops.size) (by rw[hl];simp) (λk x i D C=>?_) st A Z w a h hs n;have E:=iR.1 D;obtain⟨j,p⟩:=E;simp at j p;subst p;obtain⟨x,u,r⟩:=hi k ops[k] (by simp[j]);rw[C]at r;cases r;exact⟨ops[k],by simp[j],u⟩
 all_goals (first|cases b|(split at b<;>cases b)|(obtain⟨_,_,f⟩:=cM b;cases f))
theorem eD.vm{is b:List Ins}{dead:List (List Nat)}(h:vm P N (λex s=>ex=.normal->eD P N b s A b4) [.ins is dead] st):eD P N (is++b) st A b4:=by
 obtain⟨gs,s1,o,i,f,k⟩:=lG _ (dK _) h;refine .run i ?_;have:=k rfl;cases b with
 | nil =>
  obtain⟨l,m,n⟩:=this;exact⟨l,f.trans m,n⟩
 | cons j b=>exact pW.eg f this
theorem MR.ts{c:Code}{x:AC}(C:comp P N c=some x){I:Nat->St->Option FA->Prop}(step:∀ n st A,I n st A->MR P N x st A λex s B=>(ex=.normal->∃ m,m<n/\I m s B)/\(ex ≠ .normal->Post ex s B))(y:K.N=N) :
  ∀ (n l:Nat),l<n->∀ {st:St} {A:Option FA},I l st A->∀ {Z:Cz} {w:World} {a:Act} {Q:Exit->Act->World->Prop},aN K Z st w a->nM A K Z st w->(∀ ex st' A' Z' w' f,Post ex st' A'->aN K Z' st' w' f->nM A' K Z' st' w'->Q ex f w') ->
  ∀ (b:Frame) (k:List Go.Item) (cs:List Frame),∃ e f w',Q e f w'/\Arrives P (lone (b.at a (.code c::.inLoop c::k)) cs w) b k cs e f w'
 | 0,_,h,_,_,_=>absurd h (Nat.not_lt_zero _)
 | n+1,l,hn,st,A,L=>by
  intro hs J z b k cs;rename_i Z w a Q;obtain⟨e,a1,w1,⟨s1,B,M,D,E,F⟩,i⟩:=step l st A L c C K Z w a (λe f w'=>∃ s B Z',((e=.normal->∃ m,m<l/\I m s B)/\(e ≠ .normal->Post e s B))/\aN K Z' s w' f/\nM B K Z' s w') y hs J (λex st' A' Z' w' f hp u o=>⟨st',A',Z',hp,u,o⟩) b (.inLoop c::k) cs;by_cases r:e=.normal
  .subst r;obtain⟨m,hm,p⟩:=D.1 rfl;obtain⟨H,G,w2,t,j⟩:=MR.ts C step y n m (by omega) p E F z b k cs;exact⟨H,G,w2,t,.of_steps (Steps.trans i (.one step_inLoop)) j⟩
  .exact⟨e,a1,w1,z _ _ _ _ _ _ (D.2 r) E F,.pass (x:=.inLoop c) rfl (λ_ _=>.inl r) i⟩
theorem MR.loop{x:AC}{I:Nat->St->Option FA->Prop}(n:Nat)(l:I n st A)(step:∀ n st A,I n st A->MR P N x st A λex s B=>(ex=.normal->∃ m,m<n/\I m s B)/\(ex ≠ .normal->Post ex s B)):MR P N (.loop x) st A Post:=by intro code r K Z w a Q o hs j p;obtain⟨c,rfl,i⟩:=NY r;intro b k cs;obtain⟨e,h,w',hq,f⟩:=MR.ts i step o (n+1) n (Nat.lt_succ_self _) l hs j p b k cs;exact⟨e,h,w',hq,.of_steps (.one step_loop) f⟩
end
end Go.Ab
