/- Lemmas for the law AmbiguityCounts, part 8. No conditions. -/
import Derived.Test.YtcemegnnejaahaaGreatDoorDP07
import Derived.Maps.RangeRun
set_option maxRecDepth 100000
set_option maxHeartbeats 4000000
set_option linter.all false
namespace Go.Ab
section
variable (P:Program) (N:Nat) (Q:Exit->St->Prop)
def vmO(o:Outc)(d:Option Nat)(dd:List (List Nat))(ks:List Kt):Prop:=runO (fun v s=>vm P N Q ks ((s.rep d v).dropI dd)) o
def zz1(st:St)(f:FuncId)(vs:List AV)(d:Option Nat)(dd:List (List Nat))(ks:List Kt):Prop:=zg8 P st (d.getD 0) f vs fun _ v s=>vm P N Q ks ((s.rep d v).dropI dd)
def zqt(st:St)(f:AV)(vs:List AV)(d:Option Nat)(dd:List (List Nat))(ks:List Kt):Prop:=zc1 P st (d.getD 0) f vs fun _ v s=>vm P N Q ks ((s.rep d v).dropI dd)
def opnC(st:St)(op:IOp)(d:Option Nat)(dd:List (List Nat))(ks:List Kt):Prop :=
 match op with
 | .call f args=>zz1 P N Q st f (args.map st.ev) d dd ks
 | .callv x args=>zqt P N Q st (st.ev x) (args.map st.ev) d dd ks
 | op=>vmO P N Q (oc st (d.getD 0) op) d dd ks
structure Dr where
 i:Ins
 is:List Ins
 fs:List FP
 pre:List (List Nat)
 dead:List (List Nat)
def z4r(st:St)(f:FuncId)(vs:List AV)(r:Dr)(ks:List Kt):Prop :=
 zg8 P st (r.i.dst.getD 0) f vs fun c v s=>vm P N Q (.insD r.is (r.fs++[fp (some c) st r.i]) r.pre r.dead.tail::ks) ((s.rep r.i.dst v).dropI r.dead)
def zzz(st:St)(f:AV)(vs:List AV)(r:Dr)(ks:List Kt):Prop :=
 zc1 P st (r.i.dst.getD 0) f vs fun c v s=>vm P N Q (.insD r.is (r.fs++[fp (some c) st r.i]) r.pre r.dead.tail::ks) ((s.rep r.i.dst v).dropI r.dead)
def zu1(st:St)(op:IOp)(r:Dr)(ks:List Kt):Prop :=
 match op with
 | .call f args=>z4r P N Q st f (args.map st.ev) r ks
 | .callv x args=>zzz P N Q st (st.ev x) (args.map st.ev) r ks
 | op=>vmO P N Q (oc st (r.i.dst.getD 0) op) r.i.dst r.dead (.insD r.is (r.fs++[fp none st r.i]) r.pre r.dead.tail::ks)
inductive Tsk:Type 1
 | vm (ks:List Kt) (st:St)
 | o (o:Outc) (d:Option Nat) (dd:List (List Nat)) (ks:List Kt)
 | op (st:St) (op:IOp) (d:Option Nat) (dd:List (List Nat)) (ks:List Kt)
 | opD (st:St) (op:IOp) (r:Dr) (ks:List Kt)
def runT:Tsk->Prop
 | .vm ks st=>vm P N Q ks st
 | .o o d dd ks=>vmO P N Q o d dd ks
 | .op st op d dd ks=>opnC P N Q st op d dd ks
 | .opD st op r ks=>zu1 P N Q st op r ks
def tst(c:Bool)(X Y:Tsk):Prop:=(c=true->runT P N Q X)/\(c=false->runT P N Q Y)
def z7p(v:AV)(X Y:Tsk):Prop :=
 match v with
 | .p (.bool c)=>tst P N Q c X Y
 | _=>False
def zqb(v:AV)(b:Bool)(X Y Y':Tsk):Prop :=
 match v with
 | .p (.bool c)=>if b=true then tst P N Q c X Y else tst P N Q c Y X
 | .skip=>runT P N Q Y'
 | _=>False
def zb6(r:Option (List Kt))(id:Nat)(st:St):Prop :=
 match r with
 | some ks=>vm P N Q ks st
 | none=>Q (.exit id) st
def atP{α : Type}(l:List α)(i:Nat)(K : α -> Prop):Prop:=∃ e,l[i]?=some e/\K e
end
section
variable {P:Program} {N:Nat} {Q:Exit->St->Prop} {st st1:St} {ks:List Kt} {d:Option Nat} {dead dd:List (List Nat)} {dl:List Nat} {α β : Type}
@[simp] theorem ye3:vm P N Q [] st=Q .normal st:=by rw[vm]
@[simp] theorem ye6(j:Nat):vm P N Q (.blk j::ks) st=vm P N Q ks st:=by rw[vm]
@[simp] theorem yc1:vm P N Q (.ins [] dead::ks) st=vm P N Q ks st:=by rw[vm]
@[simp] theorem ybm(fs:List FP)(pre:List (List Nat)):vm P N Q (.insD [] fs pre dead::ks) st=(chk [] 0 fs pre=true/\vm P N Q ks st):=by rw[vm]
@[simp] theorem ye4(op:IOp)(is:List Ins):vm P N Q (.ins (⟨d,op,none⟩::is) dead::ks) st=opnC P N Q st op d dead (.ins is dead.tail::ks):=by rw[vm];simp only[zje,opnC,opnP];cases op<;>rfl
@[simp] theorem ycz(op:IOp)(is:List Ins)(t:Nat)(b:Bool):vm P N Q (.ins (⟨d,op,some (t,b)⟩::is) dead::ks) st =
  zqb P N Q (st.get t) b (.op (st.rep (some t) (.p (.bool b))) op d dead (.ins is dead.tail::ks)) (.vm (.ins is dead.tail::ks) (((st.rep (some t) (.p (.bool !b))).rep d .skip).dropI dead)) (.vm (.ins is dead.tail::ks) ((st.rep d .skip).dropI dead)):=by
 rw[vm];simp only[zje,zqb];cases st.get t with
 | p v =>
  cases v with
  | bool c =>
   have e:∀ s,(opnP P s (d.getD 0) op fun _ v s=>vm P N Q (.ins is dead.tail::ks) ((s.rep d v).dropI dead))=opnC P N Q s op d dead (.ins is dead.tail::ks):=fun s=>by simp only[opnC,opnP];cases op<;>rfl
   simp only[e];cases b<;>simp only[tst,runT,yf2,yfl,yf9,Bool.not_true,Bool.not_false];rw[and_comm]
  | _=>rfl
 | _=>rfl
@[simp] theorem yc0(op:IOp)(is:List Ins)(fs:List FP)(pre:List (List Nat)):vm P N Q (.insD (⟨d,op,none⟩::is) fs pre dead::ks) st=zu1 P N Q st op ⟨⟨d,op,none⟩,is,fs,pre,dead⟩ ks:=by rw[vm];simp only[zje,zu1,opnP];cases op<;>rfl
@[simp] theorem ybl(op:IOp)(is:List Ins)(t:Nat)(b:Bool)(fs:List FP)(pre:List (List Nat)):vm P N Q (.insD (⟨d,op,some (t,b)⟩::is) fs pre dead::ks) st =
  zqb P N Q (st.get t) b (.opD (st.rep (some t) (.p (.bool b))) op ⟨⟨d,op,some (t,b)⟩,is,fs,pre,dead⟩ ks)
   (.vm (.insD is (fs++[fp none (st.rep (some t) (.p (.bool !b))) ⟨d,op,some (t,b)⟩]) pre dead.tail::ks) (((st.rep (some t) (.p (.bool !b))).rep d .skip).dropI dead))
   (.vm (.insD is (fs++[fp none st ⟨d,op,some (t,b)⟩]) pre dead.tail::ks) ((st.rep d .skip).dropI dead)):=by
 rw[vm];simp only[zje,zqb];cases st.get t with
 | p v =>
  cases v with
  | bool c =>
   have e:∀ s,(opnP P s (d.getD 0) op fun c v s1=>vm P N Q (.insD is (fs++[fp c s ⟨d,op,some (t,b)⟩]) pre dead.tail::ks) ((s1.rep d v).dropI dead))=zu1 P N Q s op ⟨⟨d,op,some (t,b)⟩,is,fs,pre,dead⟩ ks:=fun s=>by simp only[zu1,opnP];cases op<;>rfl
   simp only[e];cases b<;>simp only[tst,runT,yf2,yfl,yf9,Bool.not_true,Bool.not_false];rw[and_comm]
  | _=>rfl
 | _=>rfl
@[simp] theorem ye2:vm P N Q (.code .nop::ks) st=vm P N Q ks st:=by rw[vm]
@[simp] theorem ye1(is:List Ins):vm P N Q (.code (.reg is dead)::ks) st=vm P N Q (.ins is dead::ks) st:=by rw[vm]
@[simp] theorem ycx(is:List Ins)(pre:List (List Nat)):vm P N Q (.code (.regD is pre dead)::ks) st=vm P N Q (.insD is [] pre dead::ks) st:=by rw[vm]
@[simp] theorem yez(a b:GC):vm P N Q (.code (.seq a b)::ks) st=vm P N Q (.code a::.code b::ks) st:=by rw[vm]
@[simp] theorem yc2(c:Opd)(a b:GC):vm P N Q (.code (.cond c dl a b)::ks) st=z7p P N Q (st.ev c) (.vm (.code a::ks) (st.drop dl)) (.vm (.code b::ks) (st.drop dl)):=by
 rw[vm];simp only[z3e,z7p];cases st.ev c with
 | p v=>cases v<;>rfl
 | _=>rfl
@[simp] theorem ybn(id:Nat)(b:GC):vm P N Q (.code (.blk id b)::ks) st=vm P N Q (.code b::.blk id::ks) st:=by rw[vm]
@[simp] theorem ycy(b:GC):vm P N Q (.code (.loop b)::ks) st=vL P N Q b ks st:=by rw[vm]
@[simp] theorem ye5(id:Nat):vm P N Q (.code (.ext id)::ks) st=zb6 P N Q (zaw id ks) id st:=by rw[vm];simp only[zb6];split<;>rename_i h<;>simp only[h]
@[simp] theorem ye0:vm P N Q (.code .ret::ks) st=Q .ret st:=by rw[vm]
@[simp] theorem z8r(b:GC):vm P N Q (.code (.cut b)::ks) st=semX P N Q (.code b::ks) .normal st:=by rw[vm]
@[simp] theorem ye7:vm P N Q (.code .bad::ks) st=False:=by rw[vm]
@[simp] theorem z8t(c:Prop)(v:AV)(s:St):vmO P N Q (.ok c v s) d dd ks=(c/\vm P N Q ks ((s.rep d v).dropI dd)):=rfl
@[simp] theorem yc5:vmO P N Q .bad d dd ks=False:=rfl
@[simp] theorem ye8(t:Bool)(a b:Outc):vmO P N Q (.br t a b) d dd ks=tst P N Q t (.o a d dd ks) (.o b d dd ks):=rfl
@[simp] theorem yc4(x : α)(l:List α)(f : α -> Outc):vmO P N Q (.el (x::l) 0 f) d dd ks=vmO P N Q (f x) d dd ks:=by simp[vmO,runO]
@[simp] theorem yc3(x : α)(l:List α)(n:Nat)(f : α -> Outc):vmO P N Q (.el (x::l) (n+1) f) d dd ks=vmO P N Q (.el l n f) d dd ks:=by simp[vmO,runO]
theorem zeb(l:List α)(n:Nat)(f : α -> Outc):vmO P N Q (.el l n f) d dd ks=atP l n fun x=>vmO P N Q (f x) d dd ks:=rfl
theorem zv5(g : α -> β)(l:List α)(n:Nat)(f : β -> Outc):vmO P N Q (.el (l.map g) n f) d dd ks=atP l n fun x=>vmO P N Q (f (g x)) d dd ks:=by simp only[vmO,runO,atP,yim,ygv];exact propext ⟨fun⟨e,⟨a,h1,h2⟩,h3⟩=>⟨a,h1,h2 ▸ h3⟩,fun⟨a,h1,h2⟩=>⟨_,⟨a,h1,rfl⟩,h2⟩⟩
theorem zad{l:List α}{n:Nat}{K : α -> Prop}(h:n<l.length)(k:K l[n]):atP l n K:=⟨l[n],by simp[h],k⟩
theorem zie{l:List α}{n:Nat}{x : α}{K : α -> Prop}(h:l[n]?=some x)(k:K x):atP l n K:=⟨x,h,k⟩
section
variable (X Y:Tsk)
@[simp] theorem ybo:tst P N Q true X Y=runT P N Q X:=by simp[tst]
@[simp] theorem z82:tst P N Q false X Y=runT P N Q Y:=by simp[tst]
@[simp] theorem z72(p:Prop)[Decidable p]:tst P N Q (decide p) X Y=((p->runT P N Q X)/\(¬ p->runT P N Q Y)):=by simp[tst]
@[simp] theorem yc9(c:Bool):tst P N Q (!c) X Y=tst P N Q c Y X:=by simp[tst,and_comm]
@[simp] theorem ydc(a b:Bool):tst P N Q (a&&b) X Y=(((a&&b)=true->runT P N Q X)/\((a&&b)=false->runT P N Q Y)):=rfl
@[simp] theorem ye9(a b:Bool):tst P N Q (a||b) X Y=(((a||b)=true->runT P N Q X)/\((a||b)=false->runT P N Q Y)):=rfl
@[simp] theorem ydb[BEq α](a b : α):tst P N Q (a == b) X Y=(((a == b)=true->runT P N Q X)/\((a == b)=false->runT P N Q Y)):=rfl
@[simp] theorem yda[BEq α](a b : α):tst P N Q (a != b) X Y=(((a != b)=true->runT P N Q X)/\((a != b)=false->runT P N Q Y)):=rfl
theorem zf5(c:Bool):tst P N Q c X Y=((c=true->runT P N Q X)/\(c=false->runT P N Q Y)):=rfl
end
attribute [simp] runT z7p zqb zb6 opnC zu1 zqt zzz zc1 zaw
attribute [simp] optO brO natO zhl z64 z2f elsO Outc.and oc zdu
attribute [simp] St.dropI
attribute [simp] St.ev St.get look St.rep rep St.drop zgt St.site St.obj St.alloc St.setObj killAll zbe
attribute [simp] AV.sz PV.sz AV.seg PV.seg PV.cells AV.cells AV.setSeg mkAgg allP zcy zcz AV.pur AV.pur0 AV.pur1 AV.acells segL AV.one PV.one PV.flatU PV.flat PV.unit PV.flat1 bbin abin zcf zgj
attribute [simp] fp runs effR effW zfd zcj zbm zqv IOp.opds Opd.slots chk zli disj
@[simp] theorem z8m(f:FuncId)(caps:List PV)(vs:List AV):zqt P N Q st (.p (.fn f caps)) vs d dd ks=zz1 P N Q st f (vs++caps.map .p) d dd ks:=rfl
@[simp] theorem ybg(f:FuncId)(v:PV)(vs:List AV):zqt P N Q st (.p (.bm f v)) vs d dd ks=zz1 P N Q st f (.p v::vs) d dd ks:=rfl
@[simp] theorem ybf(f:FuncId)(caps vs:List AV):zqt P N Q st (.fn f caps) vs d dd ks=zz1 P N Q st f (vs++caps) d dd ks:=rfl
theorem zfy{c:PCall}{e:Nat}{vs:List AV}(hv:vs.mapM (toPV st FUEL)=some c.args)(hn:zp7 c.res=false:=by rfl):zcc (some c) st e c.f vs=zey c st e vs:=yf1 ⟨rfl,by rw[zxx hn];exact hv⟩
theorem zaa{f:FuncId}{e:Nat}{vs:List AV}{args:List PV}{r:PV}{K:PCall->AV->St->Prop}(hs:Sp P f args (.pure r))(hv:vs.mapM (toPV st FUEL)=some args)
  (k:K ⟨f,args,.pure r,none⟩ (.p r) (if r.flatU then st else killAll st (vs.flatMap (deps st FUEL)))):zg8 P st e f vs K :=
 ⟨⟨f,args,.pure r,none⟩,hs,.p r,_,zfy (c:=⟨f,args,.pure r,none⟩) hv,k⟩
theorem zaf{f:FuncId}{e:Nat}{vs:List AV}{args:List PV}{r:PV}{K:PCall->AV->St->Prop}(hs:Sp P f args (.pure r))
 (k:K ⟨f,args,.pure r,none⟩ (.p r) (if r.flatU then st else killAll st (vs.flatMap (deps st FUEL)))) (hv:vs.mapM (toPV st FUEL)=some args:=by simp):zg8 P st e f vs K:=zaa hs hv k
theorem zc8{f:FuncId}{e:Nat}{vs:List AV}{args:List PV}{sz:Nat}{es:List PV}{K:PCall->AV->St->Prop}(hs:Sp P f args (.fresh sz es))(hv:vs.mapM (toPV st FUEL)=some args)
  (h:es.all (fun v=>v.sz == sz)=true/\0<sz/\es.length<=LIM) (st1:St) (h1:st1=(if es.all PV.flat then st else killAll st (vs.flatMap (deps st FUEL))))
  (k:K ⟨f,args,.fresh sz es,none⟩ (.own e (st1.site e).length 0 es.length) (st1.alloc e ⟨sz,es.map .p⟩)):zg8 P st e f vs K:=by
 subst h1;refine⟨⟨f,args,.fresh sz es,none⟩,hs,_,_,(zfy (c:=⟨f,args,.fresh sz es,none⟩) hv).trans ?_,k⟩;simp only[zey,zex];rw[yf1 h];rfl
def zb0:AV->Bool
 | .undef=>false
 | _=>true
theorem zb7{f:FuncId}{e:Nat}{vs:List AV}{hp hp':List Site}{res:HV}{K:PCall->AV->St->Prop}(hs:HSpG P f vs hp none res hp' none)(hu:vs.all zb0=true)(hk:zbb st hp hp)(hks:hp'.map (·.1)=hp.map (·.1))
  (hr:(zam (hp.map (·.1)) vs&&hpOk (hp.map (·.1)) hp&&zdi (hp.map (·.1)) res&&hpOk (hp.map (·.1)) hp')=true)
  (k:K ⟨f,[],.hsp vs hp res hp',none⟩ (zcd res ⟨st.sl,hp'++st.hp⟩ e).1 (zcd res ⟨st.sl,hp'++st.hp⟩ e).2):zg8 P st e f vs K :=
 ⟨⟨f,[],.hsp vs hp res hp',none⟩,hs,_,_,yf1 ⟨rfl,rfl,(fun h=>by have:=yfp.1 hu _ h;cases this),hk,hks,hr⟩,k⟩
theorem zab{f:FuncId}{vs:List AV}{args:List PV}{r:PV}(hs:Sp P f args (.pure r))(hv:vs.mapM (toPV st FUEL)=some args)
  (k:vm P N Q ks (((if r.flatU then st else killAll st (vs.flatMap (deps st FUEL))).rep d (.p r)).dropI dd)):zz1 P N Q st f vs d dd ks:=zaa hs hv k
theorem zah{f:FuncId}{vs:List AV}{args:List PV}{r:PV}{D:Dr}(hs:Sp P f args (.pure r))(hv:vs.mapM (toPV st FUEL)=some args)
  (k:vm P N Q (.insD D.is (D.fs++[fp (some ⟨f,args,.pure r,none⟩) st D.i]) D.pre D.dead.tail::ks) (((if r.flatU then st else killAll st (vs.flatMap (deps st FUEL))).rep D.i.dst (.p r)).dropI D.dead)):z4r P N Q st f vs D ks:=zaa hs hv k
theorem Loops.inv{b:AC}{α : Type}(S : α -> St)(I : α -> Prop)(m : α -> Nat)
  (step:∀ x,I x->∀ R:Exit->St->Prop,(∀ y s,Weak s (S y)->I y->m y<m x->R .normal s)->(∀ ex s,ex ≠ .normal->Q ex s->R ex s)->∃ ex s,Runs P N b (S x) ex s/\R ex s) :
  ∀ (n:Nat) (x : α),m x<n->I x->∀ {st:St},Weak st (S x)->∃ ex s,Loops P N b st ex s/\Q ex s
 | 0,_,h,_,_,_=>absurd h (yjj _)
 | n+1,x,h,hI,st,hw=>by
  obtain⟨ex,s,r1,r2⟩:=step x hI (fun ex s=>(ex=.normal->∃ y,Weak s (S y)/\I y/\m y<m x)/\(ex ≠ .normal->Q ex s)) (fun y s h1 h2 h3=>⟨fun _=>⟨y,h1,h2,h3⟩,fun h=>absurd rfl h⟩) (fun ex s h1 h2=>⟨fun h=>absurd h h1,fun _=>h2⟩);by_cases he:ex=.normal
  ·subst he;obtain⟨y,y1,y2,y3⟩:=r2.1 rfl;obtain⟨ex,s2,q1,q2⟩:=Loops.inv S I m step n y (by omega) y2 y1;exact⟨ex,s2,Loops.weakL hw (.next _ _ _ _ r1 q1),q2⟩
  ·exact⟨_,s,Loops.weakL hw (.out _ _ _ r1 he),r2.2 he⟩
def z95(P:Program)(N:Nat)(Q:Exit->St->Prop)(ks:List Kt):Exit->St->Prop
 | .exit id,s=>zb6 P N Q (zaw id ks) id s
 | ex,s=>Q ex s
theorem zj4{ex:Exit}{s:St}(he:ex ≠ .normal)(h:z95 P N Q ks ex s)(h2:ex=.ret\/∃ id,ex=.exit id):semX P N Q ks ex s:=by
 rcases h2 with rfl|⟨id,rfl⟩
 ·exact zc9 h
 ·refine ze1 ?_;simp only[z95,zb6]at h;split at h
  ·rename_i hk;simp only[hk];exact zcq _ (yf8 _) h
  ·rename_i hk;simp only[hk];exact h
theorem zaj{b:GC}{α : Type}(S : α -> St)(I : α -> Prop)(m : α -> Nat)(x0 : α)(h0:Weak st (S x0))(hI:I x0)
  (step:∀ x,I x->∀ R:Exit->St->Prop,(∀ y s,Weak s (S y)->I y->m y<m x->R .normal s)->(∀ s,Q .ret s->R .ret s)->(∀ id s,zb6 P N Q (zaw id ks) id s->R (.exit id) s)->vm P N R [.code b] (S x)) :
  vL P N Q b ks st:=by
 refine Loops.inv (Q:=semX P N Q ks) S I m (fun x hx R h1 h2=>?_) (m x0+1) x0 (Nat.lt_succ_self _) hI h0;obtain⟨ex,s,r1,r2⟩:=zcq (P:=P) (N:=N) _ (yf8 _) (step x hx R h1 (fun s h=>h2 _ _ (by simp) (zc9 h)) (fun id s h=>h2 _ _ (by simp) (zj4 (by simp) h (.inr ⟨id,rfl⟩))));exact⟨ex,s,r1,r2⟩
end
attribute [simp] IntKind.bits
class Enc (α : Type) where
 enc : α -> PV
 sz:Nat
 pos:0<sz
 ok:∀ x,(enc x).sz=sz
open Enc (enc)
def ens{α : Type}[Enc α](l:List α):List PV:=l.map enc
def avs{α : Type}[Enc α](l:List α):List AV:=(ens l).map .p
instance:Enc UInt32:=⟨fun x=>.int .u32 x.toNat,1,Nat.one_pos,fun _=>rfl⟩
instance:Enc UInt64:=⟨fun x=>.int .u64 x.toNat,1,Nat.one_pos,fun _=>rfl⟩
instance:Enc Int:=⟨fun x=>.int .i64 x,1,Nat.one_pos,fun _=>rfl⟩
instance:Enc Bool:=⟨fun x=>.bool x,1,Nat.one_pos,fun _=>rfl⟩
instance {α : Type} [Enc α]:Enc (List α):=⟨fun x=>.sl (ens x),1,Nat.one_pos,fun _=>rfl⟩
@[simp] theorem yea(x:UInt32):enc x=.int .u32 x.toNat:=rfl
@[simp] theorem yd9(x:UInt64):enc x=.int .u64 x.toNat:=rfl
@[simp] theorem yeb(x:Int):enc x=.int .i64 x:=rfl
@[simp] theorem yb5(x:Bool):enc x=.bool x:=rfl
@[simp] theorem yb4{α : Type}[Enc α](x:List α):enc x=.sl (ens x):=rfl
@[simp] theorem yai:Enc.sz UInt32=1:=rfl
@[simp] theorem yah:Enc.sz UInt64=1:=rfl
@[simp] theorem yak:Enc.sz Int=1:=rfl
@[simp] theorem z8f:Enc.sz Bool=1:=rfl
@[simp] theorem z8e{α : Type}[Enc α]:Enc.sz (List α)=1:=rfl
section
variable {P:Program} {N:Nat} {Q:Exit->St->Prop} {st st1:St} {ks:List Kt} {d:Option Nat} {dd:List (List Nat)} {α β : Type} [Enc α] [Enc β]
@[simp] theorem ziz(l:List α):(ens l).length=l.length:=by simp[ens]
@[simp] theorem znf(l:List α):(avs l).length=l.length:=by simp[avs,ens]
@[simp] theorem yd6:ens ([]:List α)=[]:=rfl
@[simp] theorem z7u:avs ([]:List α)=[]:=rfl
@[simp] theorem ybx(x : α)(l:List α):ens (x::l)=enc x::ens l:=rfl
@[simp] theorem ycv(x : α)(l:List α):avs (x::l)=.p (enc x)::avs l:=rfl
@[simp] theorem ybw(l:List α)(n:Nat):(ens l).drop n=ens (l.drop n):=by simp[ens,List.map_drop]
@[simp] theorem ybv(l:List α)(n:Nat):(ens l).take n=ens (l.take n):=by simp[ens,yj0]
@[simp] theorem ycu(l:List α)(n:Nat):(avs l).drop n=avs (l.drop n):=by simp[avs,ens,List.map_drop]
@[simp] theorem zuo(l:List α)(n:Nat):(avs l).take n=avs (l.take n):=by simp[avs,ens,yj0]
@[simp] theorem zd7(l r:List α):avs (l++r)=avs l++avs r:=by simp[avs,ens]
@[simp] theorem zat(l:List α):(ens l).map AV.p=avs l:=rfl
theorem zwj(l:List α):∀ v∈ens l,v.sz=Enc.sz α := by intro v hv;obtain⟨x,_,rfl⟩:=yf6.1 hv;exact Enc.ok x
@[simp] theorem z0z(n:Nat)(l:List α):szsP n (ens l)=((n=Enc.sz α \/ l=[])/\0<n):=by
 simp only[szsP,ens,List.all_map,yfp,yjy,beq_iff_eq,Enc.ok];cases l with
 | nil=>simp
 | cons x l =>
  refine propext ⟨fun⟨h,h2⟩=>⟨.inl (h x (by simp)).symm,h2⟩,fun⟨h,h2⟩=>⟨fun y _=>?_,h2⟩⟩;rcases h with h|h
  ·exact h.symm
  ·cases h
@[simp] theorem ydg(n:Nat)(l:List α):szs n (avs l)=((n=Enc.sz α \/ l=[])/\0<n):=by
 have:szs n (avs l)=szsP n (ens l):=by
  simp only[szs,szsP,avs,List.all_map]
  congr 2
 rw[this,z0z]
@[simp] theorem ybr(n:Nat)(v:AV)(l:List AV):szs n (v::l)=(v.sz=n/\szs n l):=by simp[szs,and_assoc]
@[simp] theorem ydf(n:Nat):szs n []=(0<n):=by simp[szs]
@[simp] theorem z73(n:Nat)(l r:List AV):szs n (l++r)=(szs n l/\szs n r):=by simp only[szs,List.all_append,yfr];exact propext ⟨fun⟨⟨a,b⟩,c⟩=>⟨⟨a,c⟩,b,c⟩,fun⟨⟨a,c⟩,b,_⟩=>⟨⟨a,b⟩,c⟩⟩
@[simp] theorem yev(l:List α):(avs l).map AV.pur=avs l:=by simp[-zat,avs,AV.pur]
@[simp] theorem z42(l:List α)(n:Nat)(f:PV->Outc):vmO P N Q (.el (ens l) n f) d dd ks=atP l n fun x=>vmO P N Q (f (enc x)) d dd ks:=zv5 enc l n f
@[simp] theorem yc6(l:List α)(n:Nat)(f:AV->Outc):vmO P N Q (.el (avs l) n f) d dd ks=atP l n fun x=>vmO P N Q (f (.p (enc x))) d dd ks:=by unfold avs;rw[zv5,<- zeb,z42]
@[simp] theorem yeu(l:List α)(n:Nat)(x : α):avs (l.set n x)=(avs l).set n (.p (enc x)):=by simp[-zat,avs,ens,yht]
@[simp] theorem zf0(n:Nat)(x : α):avs (List.replicate n x)=List.replicate n (.p (enc x)):=by simp[-zat,avs,ens]
@[simp] theorem yfa(n:Nat)(st:St)(v:PV):toPV st (n+1) (.p v)=some v:=rfl
@[simp] theorem z86(n:Nat)(st:St):toPV st (n+1) .nil=some (.sl []):=rfl
@[simp] theorem ydd(st:St)(v:PV):toPV st FUEL (.p v)=some v:=rfl
@[simp] theorem z88(st:St):toPV st FUEL .nil=some (.sl []):=rfl
@[simp] theorem ya5(n:Nat)(st:St)(v:PV):deps st n (.p v)=[]:=by cases n<;>rfl
@[simp] theorem ya6(n:Nat)(st:St):deps st n .nil=[]:=by cases n<;>rfl
@[simp] theorem zyc(n:Nat)(st:St)(l:List PV):(l.map AV.p).mapM (toPV st (n+1))=some l:=by
 induction l with
 | nil=>rfl
 | cons x l ih=>simp only[yfq,yhz,ih];rfl
@[simp] theorem z14(n:Nat)(st:St)(l:List α):(avs l).mapM (toPV st (n+1))=some (ens l):=zyc n st _
@[simp] theorem zvg(n:Nat)(st:St)(l:List PV):(l.map AV.p).flatMap (deps st n)=[]:=by
 induction l with
 | nil=>rfl
 | cons x l ih=>simp only[yfq,yft,ih,ya5];rfl
@[simp] theorem z69(n:Nat)(st:St)(l:List α):(avs l).flatMap (deps st n)=[]:=zvg n st _
@[simp] theorem ya9(st:St)(s g off len:Nat):deps st FUEL (.own s g off len)=(s,g)::(match st.obj s g with|some o=>o.es.flatMap (deps st 5)|none=>[]):=rfl
@[simp] theorem ya8(st:St)(s g off len:Nat):deps st FUEL (.ptr s g off len)=(s,g)::(match st.obj s g with|some o=>o.es.flatMap (deps st 5)|none=>[]):=rfl
@[simp] theorem zwb(st:St)(s g off len:Nat):toPV st FUEL (.own s g off len)=match st.obj s g with
  | some o=>if off+len<=o.es.length then(((o.es.drop off).take len).mapM (toPV st 5)).map .sl else none
  | none=>none:=rfl
@[simp] theorem z89(st:St)(cs:List AV):toPV st FUEL (.agg cs)=(cs.mapM (toPV st 5)).map .agg:=rfl
@[simp] theorem z87(st:St)(cs:List AV):toPV st FUEL (.tup cs)=(cs.mapM (toPV st 5)).map .tup:=rfl
@[simp] theorem ybq(st:St)(f:FuncId)(cs:List AV):toPV st FUEL (.fn f cs)=(cs.mapM (toPV st 5)).map (.fn f):=rfl
def resP(s:St)(v:AV):RV->Prop
 | .pure p=>toPV s FUEL v=some p
 | .fresh sz es=>match v with
  | .own s' g off len=>∃ o,s.obj s' g=some o/\off=0/\len=o.es.length/\o.sz=sz/\o.es=es.map .p
  | .nil=>es=[]
  | _=>False
 | _=>False
def retP(rs:List (Nat × Option Nat))(res:RV):Exit->St->Prop
 | .ret,s=>∃ vs,zbd s rs=some vs/\resP s (resOf vs) res
 | .normal,s=>∃ vs,zbd s rs=some vs/\resP s (resOf vs) res
 | _,_=>False
attribute [simp] retP resP zbd zi4 resOf zel zm6
theorem Sp.of_vm{f:FuncId}{args:List PV}{res:RV}{n np:Nat}{b:GC}{rs:List (Nat × Option Nat)}(hc:zac P f=some ⟨n,np,b.er,rs⟩)(hn:args.length<=n)(h:vm P n (retP rs res) [.code b] (zel args)):Sp P f args res:=by
 obtain⟨ex,s,r1,r2⟩:=zcq _ (yf8 _) h;have key:(ex=.ret\/ex=.normal)/\∃ vs,zbd s rs=some vs/\resP s (resOf vs) res:=by
  change retP rs res ex s at r2
  cases ex with
  | ret=>exact⟨.inl rfl,r2⟩
  | normal=>exact⟨.inr rfl,r2⟩
  | _=>exact r2.elim
 obtain⟨k1,vs,r3,r4⟩:=key;refine Sp.of_runs hc hn r1 k1 r3 ?_;unfold resP at r4;split at r4
 ·exact .pure _ _ r4
 ·split at r4
  ·rename_i sz es s' g off len hv;obtain⟨o,h1,rfl,h2,rfl,h4⟩:=r4;rw[hv];exact .fresh _ _ _ _ _ h1 h2 h4
  ·rename_i hv;rw[hv,r4];exact .nil _
  ·exact r4.elim
 ·exact r4.elim
theorem z8s{b:GC}{γ : Type}(S : γ -> St)(I : γ -> Prop)
  (h:∀ R:Exit->St->Prop,(∀ y s,Weak s (S y)->I y->R .normal s)->(∀ s,Q .ret s->R .ret s)->(∀ id s,zb6 P N Q (zaw id ks) id s->R (.exit id) s)->vm P N R [.code b] st)
  (k2:∀ y,I y->vm P N Q ks (S y)):semX P N Q (.code b::ks) .normal st:=by
 obtain⟨ex,s,r1,r2⟩:=zcq (P:=P) (N:=N) _ (yf8 _) (h (fun ex s=>(ex=.normal->∃ y,Weak s (S y)/\I y)/\(ex ≠ .normal->semX P N Q ks ex s)) (fun y s h1 h2=>⟨fun _=>⟨y,h1,h2⟩,fun h=>absurd rfl h⟩)
  (fun s h=>⟨fun h=>(by cases h),fun _=>zc9 h⟩) (fun id s h=>⟨fun h=>(by cases h),fun _=>zj4 (by simp) h (.inr ⟨id,rfl⟩)⟩))
 by_cases he:ex=.normal
 ·subst he;obtain⟨y,y1,y2⟩:=r2.1 rfl;exact⟨.normal,S y,r1.weakR y1,zcq _ (yf8 _) (k2 y y2)⟩
 ·exact⟨ex,s,r1,r2.2 he⟩
end
end Go.Ab
namespace Go.Ab
open Enc (enc)
mutual
def okP:PV->Prop
 | .sl es=>es.length<=maxLen/\okL es
 | .agg cs=>okL cs
 | .ref v=>okP v
 | .fn _ cs=>okL cs
 | .bm _ v=>okP v
 | .tup vs=>okL vs
 | _=>True
def okL:List PV->Prop
 | []=>True
 | v::r=>okP v/\okL r
end
theorem zmr:∀ {l r:List PV},okL (l++r) ↔ okL l/\okL r
 | [],r=>by simp[okL]
 | v::l,r=>by simp[okL,zmr (l:=l),and_assoc]
theorem zpy(v:PV)(h:okL v.cells):okP v:=by cases v<;>simp only[PV.cells,okL,okP,and_true]at h ⊢ <;> exact h
theorem zta:∀ {es:List PV},okL (es.flatMap PV.cells)->okL es
 | [],_=>trivial
 | e::es,h=>by rw[yft,zmr]at h;exact⟨zpy e h.1,zta h.2⟩
mutual
theorem PRep.okay{M:Nat->Option Obj}:∀ {v:PV} {x:Value},PRep M v x->okP v
 | _,_,.bool _=>by simp[okP]
 | _,_,.int _ _=>by simp[okP]
 | _,_,.str _=>by simp[okP]
 | _,_,.nilfn=>by simp[okP]
 | _,_,.any _ _=>by simp[okP]
 | _,_,.nl _=>by simp[okP]
 | _,_,.sle _ _=>by simp[okP]
 | _,_,.mapv _=>by simp[okP]
 | _,_,.itv _=>by simp[okP]
 | _,_,.mp _ _ _ _ _ _ _ _ _ _ _=>by simp[okP]
 | _,_,.sl0 _ _=>by simp[okP,okL]
 | _,_,.sl es b o cap cur T fr sz vals h0 h1 h2 h3 h4 h5 h6 h7=>by
  simp only[okP];exact⟨h7,zta (PReps.okay h4)⟩
 | _,_,.agg cs vals _ h=>by simp only[okP];exact PReps.okay h
 | _,_,.fn f caps vals h=>by simp only[okP];exact PReps.okay h
 | _,_,.bm f v x h=>by simp only[okP];exact PRep.okay h
 | _,_,.ref v b o cur T fr vals _ _ _ h _=>by simp only[okP];exact zpy v (PReps.okay h)
 | _,_,.tup vs vals h=>by simp only[okP];exact PReps.okay h
theorem PReps.okay{M:Nat->Option Obj}:∀ {v:List PV} {x:List Value},PReps M v x->okL v
 | _,_,.nil=>trivial
 | _,_,.cons v x vs xs h hs=>⟨PRep.okay h,PReps.okay hs⟩
end
section
variable {P:Program} {N:Nat} {Q:Exit->St->Prop} {st:St} {α β : Type} [Enc α] [Enc β]
theorem zix{f:FuncId}{C:FnC}(hc:zac P f=some C):∃ fn,P.funcs[f]?=some fn/\fn.body.isSome=true/\fn.name ≠ "runtime.NumGoroutine" := by
 unfold zac at hc;split at hc
 ·rename_i fn hf;split at hc
  ·rename_i hname;split at hc
   ·rename_i c hb;exact⟨fn,hf,by rw[hb];rfl,hname⟩
   ·cases hc
  ·cases hc
 ·cases hc
theorem Sp.of_vm'{f:FuncId}{args:List PV}{res:RV}{n np:Nat}{b:GC}{rs:List (Nat × Option Nat)}(hc:zac P f=some ⟨n,np,b.er,rs⟩)(hn:args.length<=n)(h:okL args->vm P n (retP rs res) [.code b] (zel args)):Sp P f args res :=
 ⟨zix hc,fun w M vals hM hv=>(Sp.of_vm hc hn (h hv.okay)).2 w M vals hM hv⟩
theorem Sp.vz{f:FuncId}{args:List PV}{res:RV}{n np:Nat}{b:GC}{rs:List (Nat × Option Nat)}(hc:zac P f=some ⟨n,np,b.er,rs⟩)(h:okL args->vm P n (retP rs res) [.code b] (zel args))(hn:args.length<=n:=by simp):Sp P f args res:=Sp.of_vm' hc hn h
theorem z9x{es:List PV}(h:okP (.sl es)):es.length<=maxLen:=by simp only[okP]at h;exact h.1
theorem zk0{l:List α}(h:okP (.sl (ens l))):l.length<=9223372036854775807:=by have:=z9x h;simpa[ziz,maxLen]using this
end
@[simp] theorem zsi(n:Int):IntKind.u32.wrap n=n % 4294967296:=by simp[IntKind.wrap,IntKind.signed,IntKind.bits]
@[simp] theorem z0g(n:Int):IntKind.u64.wrap n=n % 18446744073709551616:=by simp[IntKind.wrap,IntKind.signed,IntKind.bits]
@[simp] theorem ycw(n:Int):IntKind.u8.wrap n=n % 256:=by simp[IntKind.wrap,IntKind.signed,IntKind.bits]
theorem wrap_i64(n:Int):IntKind.i64.wrap n=(n+9223372036854775808) % 18446744073709551616 - 9223372036854775808:=by rw[IntKind.wrap_i64]
theorem i64w{n:Int}(h1 : -9223372036854775808<=n)(h2:n<=9223372036854775807):IntKind.i64.wrap n=n:=IntWalk.i64_in n ⟨h1,h2⟩
theorem i64s(k:Nat)(h:(k:Int)<=9223372036854775806:=by omega):IntKind.i64.wrap ((k:Int)+1)=((k+1:Nat):Int):=by rw[i64w (by omega) (by omega)];omega
section
variable {α : Type} [Enc α] {st st':St}
attribute [simp] St.weak? St.weakF? zgz mkSt idOf zdy zp1 ren renL zce zam ze5 DEAD PIN PINB z1r LIM
@[simp] theorem ybu(fam:List Nat)(ids:List ((Nat × Nat) × Nat))(l:List α):renL fam ids (avs l)=avs l:=z9k _
@[simp] theorem z5s(fam:List Nat)(ids:List ((Nat × Nat) × Nat))(l r:List AV):renL fam ids (l++r)=renL fam ids l++renL fam ids r:=by simp[zb8]
@[simp] theorem z0d(fam:List Nat)(ids:List ((Nat × Nat) × Nat))(n:Nat)(v:AV):renL fam ids (List.replicate n v)=List.replicate n (ren fam ids v):=by simp[zb8]
@[simp] theorem ybt(fam:List Nat)(ids:List ((Nat × Nat) × Nat))(l:List AV)(n:Nat)(v:AV):renL fam ids (l.set n v)=(renL fam ids l).set n (ren fam ids v):=by simp[zb8,yht]
@[simp] theorem z74(ks:List Nat)(l:List α):zam ks (avs l)=true:=by rw[ze3,yfp];intro v hv;simp only[avs,yf6]at hv;obtain⟨p,_,rfl⟩:=hv;rfl
theorem Weak.toF(keep fam:List Nat)(ids:List ((Nat × Nat) × Nat))(h:st.weakF? keep fam ids=some st'):Weak st st':=Weak.ofF h
theorem Weak.to(keep:List Nat)(ids:List ((Nat × Nat) × Nat))(h:st.weak? keep ids=some st'):Weak st st':=Weak.of h
theorem Weak.nl(t s sz:Nat){st1:St}(h:st.nilSlot? t s sz=some st1)(k:Weak st1 st'):Weak st st':=(Weak.nilSlot h).trans k
end
theorem zvx{w:Nat}{x:Nat}(h:x<2^w):(BitVec.ofInt w (x:Int)).toNat=x:=by rw[BitVec.toNat_ofInt];rw[Int.emod_eq_of_lt (by omega) (by exact_mod_cast h)];rfl
theorem zrk{x y:Nat}(hx:x<18446744073709551616)(hy:y<18446744073709551616):orI .u64 x y=((x ||| y:Nat):Int):=by have:=yjz (n:=64) (x:=x) (y:=y) hx hy;show IntKind.u64.wrap (BitVec.ofInt 64 x ||| BitVec.ofInt 64 y).toNat=_;rw[z0g,BitVec.toNat_or,zvx (by exact hx),zvx (by exact hy)];omega
theorem zxl{x y:Nat}(hx:x<4294967296)(hy:y<4294967296):orI .u32 x y=((x ||| y:Nat):Int):=by have:=yjz (n:=32) (x:=x) (y:=y) hx hy;show IntKind.u32.wrap (BitVec.ofInt 32 x ||| BitVec.ofInt 32 y).toNat=_;rw[zsi,BitVec.toNat_or,zvx (by exact hx),zvx (by exact hy)];omega
theorem z3x{x y:Nat}(hx:x<4294967296)(hy:y<4294967296):andI .u32 x y=((x &&& y:Nat):Int):=by have:=Nat.and_lt_two_pow (n:=32) x (y:=y) hy;show IntKind.u32.wrap (BitVec.ofInt 32 x &&& BitVec.ofInt 32 y).toNat=_;rw[zsi,BitVec.toNat_and,zvx (by exact hx),zvx (by exact hy)];omega
theorem zxk{x y k:Nat}(h:y<2^k):(x*2^k) ||| y=x*2^k+y:=by rw[<- Nat.shiftLeft_eq,Nat.shiftLeft_add_eq_or_of_lt h]
theorem z6e{x y k:Nat}(h:y<2^k):y ||| (x*2^k)=x*2^k+y:=by rw[Nat.or_comm,zxk h]
@[simp] theorem z80(x:UInt32):(x.toNat:Int) % 18446744073709551616=x.toNat:=by have:=x.toNat_lt;omega
@[simp] theorem z81(x:UInt32):(x.toNat:Int) % 4294967296=x.toNat:=by have:=x.toNat_lt;omega
@[simp] theorem z8z(x:UInt64):(x.toNat:Int) % 18446744073709551616=x.toNat:=by have:=x.toNat_lt;omega
theorem z9a(x y:Nat):((x:Nat):Int).tdiv (y:Int)=((x / y:Nat):Int):=by rw[Int.tdiv_eq_ediv_of_nonneg (by omega)];exact(yio x y).symm
theorem z0s(x y:Nat):((x:Nat):Int).tmod (y:Int)=((x % y:Nat):Int):=by rw[yj1 (by omega)];exact(yj2 x y).symm
theorem zxj{r x k:Nat}(hr:r*2^k<18446744073709551616)(hx:x<2^k)(hx2:x<18446744073709551616):orI .u64 ((r:Int)*2^k % 18446744073709551616) x=((r*2^k+x:Nat):Int):=by
 have e:((r:Int)*2^k % 18446744073709551616)=((r*2^k:Nat):Int):=by
  have:((r:Int)*2^k)=((r*2^k:Nat):Int):=by simp
  rw[this];omega
 rw[e,zrk hr hx2,zxk hx]
theorem z6d{r x k:Nat}(hr:r*2^k<18446744073709551616)(hx:x<2^k)(hx2:x<18446744073709551616):orI .u64 x ((r:Int)*2^k % 18446744073709551616)=((r*2^k+x:Nat):Int):=by
 have e:((r:Int)*2^k % 18446744073709551616)=((r*2^k:Nat):Int):=by
  have:((r:Int)*2^k)=((r*2^k:Nat):Int):=by simp
  rw[this];omega
 rw[e,zrk hx2 hr,z6e hx]
section
variable {st:St} {α : Type} [Enc α]
theorem zdt{s g n sz:Nat}{es:List AV}{l:List α}(ho:st.obj s g=some ⟨sz,es⟩)(he:es=avs l)(hn:n=l.length):toPV st FUEL (.own s g 0 n)=some (.sl (ens l)):=by subst he hn;simp only[zwb,ho,znf,ygm,yf8,yf2,yhx,zuo,yfs,z14,yi0]
theorem zb5{v:AV}{vs:List AV}{p:PV}{ps:List PV}(h:toPV st FUEL v=some p)(k:vs.mapM (toPV st FUEL)=some ps):(v::vs).mapM (toPV st FUEL)=some (p::ps):=by simp only[yhz,h,k];rfl
theorem zcw:([]:List AV).mapM (toPV st FUEL)=some []:=rfl
end
attribute [simp] St.put St.nilSlot?
@[simp] theorem z85(n:Nat)(st:St)(cs:List AV):toPV st (n+1) (.agg cs)=(cs.mapM (toPV st n)).map .agg:=rfl
@[simp] theorem z83(n:Nat)(st:St)(cs:List AV):toPV st (n+1) (.tup cs)=(cs.mapM (toPV st n)).map .tup:=rfl
@[simp] theorem ybp(n:Nat)(st:St)(f:FuncId)(cs:List AV):toPV st (n+1) (.fn f cs)=(cs.mapM (toPV st n)).map (.fn f):=rfl
@[simp] theorem z84(n:Nat)(st:St)(s g off len:Nat):toPV st (n+1) (.own s g off len)=match st.obj s g with
  | some o=>if off+len<=o.es.length then(((o.es.drop off).take len).mapM (toPV st n)).map .sl else none
  | none=>none:=rfl
@[simp] theorem ya3(n:Nat)(st:St)(s g off len:Nat):deps st (n+1) (.own s g off len)=(s,g)::(match st.obj s g with|some o=>o.es.flatMap (deps st n)|none=>[]):=rfl
@[simp] theorem ya2(n:Nat)(st:St)(s g off len:Nat):deps st (n+1) (.ptr s g off len)=(s,g)::(match st.obj s g with|some o=>o.es.flatMap (deps st n)|none=>[]):=rfl
@[simp] theorem ya4(n:Nat)(st:St)(cs:List AV):deps st (n+1) (.agg cs)=cs.flatMap (deps st n):=rfl
@[simp] theorem yba(st:St)(cs:List AV):deps st FUEL (.agg cs)=cs.flatMap (deps st 5):=rfl
@[simp] theorem yct(st:St)(f:FuncId)(cs:List AV):deps st FUEL (.fn f cs)=cs.flatMap (deps st 5):=rfl
section
variable {P:Program} {K:Ctx} {Z Z':Cz} {st st' st1 st2:St} {w w':World} {a:Act} {N:Nat} {ex:Exit}
theorem StRep.root(hs:StRep K Z st w a):StRep ⟨w,Z.M,ownB Z st,K.N⟩ Z st w a :=
 ⟨hs.slots,hs.defers,hs.size,⟨hs.heap.objs,hs.heap.inj,hs.heap.mem,hs.heap.sep,fun s g o _ ho hb=>.inl ⟨s,g,o,ho,hb⟩,fun _ _ h=>h,fun _ _ h=>.inl h,Keep.refl w _⟩⟩
theorem StRep.unroot{a':Act}(hs:StRep K Z st w a)(hs':StRep ⟨w,Z.M,ownB Z st,K.N⟩ Z' st' w' a'):StRep K Z' st' w' a':=by
 have hown:∀ b,ownB Z st b->K.X0 b\/K.w0.heap.size<=b:=fun b ⟨s,g,o,ho,hb⟩=>hs.heap.own s g o b ho hb;have hsz:=hs.heap.keep.size;refine⟨hs'.slots,hs'.defers,hs'.size,⟨hs'.heap.objs,hs'.heap.inj,hs'.heap.mem,hs'.heap.sep,fun s g o b ho hb=>?_,fun b o h=>hs'.heap.m0 b o (hs.heap.m0 b o h),fun b o h=>?_,?_⟩⟩
 ·rcases hs'.heap.own s g o b ho hb with h|h
  ·exact hown b h
  ·exact .inr (yf7 hsz h)
 ·rcases hs'.heap.prov b o h with h|h|h
  ·exact hs.heap.prov b o h
  ·rcases hown b h with h|h
   ·exact .inr (.inl h)
   ·exact .inr (.inr h)
  ·exact .inr (.inr (yf7 hsz h))
 ·have k1:=hs.heap.keep;have k2:=hs'.heap.keep;refine⟨k2.os.trans k1.os,k2.tape.trans k1.tape,k2.output.trans k1.output,yf7 k1.drawn k2.drawn,yf7 k1.size k2.size,fun b hb hx=>?_⟩;rw[k2.blk b (yfo hb k1.size) (fun h=>by rcases hown b h with h|h;exact hx h;omega),k1.blk b hb hx]
theorem Fgn.later{a':Act}{r:Nat}(hf:Fgn Z st w r)(hs':StRep ⟨w,Z.M,ownB Z st,N⟩ Z' st' w' a'):Fgn Z' st' w' r/\w'.heap[r]?=w.heap[r]?:=by
 have hno:¬ ownB Z st r:=fun⟨s,g,o,ho,hb⟩=>hf.o s g o ho hb;refine⟨⟨?_,fun s g o ho hb=>?_,yfo hf.lt hs'.heap.keep.size⟩,hs'.heap.keep.blk r hf.lt hno⟩
 ·cases hm:Z'.M r with
  | none=>rfl
  | some o =>
   rcases hs'.heap.prov r o hm with h|h|h
   ·have h':Z.M r=some o:=h;rw[hf.m]at h';cases h'
   ·exact absurd h hno
   ·have h':w.heap.size<=r:=h;have:=hf.lt;omega
 ·rcases hs'.heap.own s g o r ho hb with h|h
  ·exact hno h
  ·have h':w.heap.size<=r:=h;have:=hf.lt;omega
structure Later (Z:Cz) (st:St) (w:World) (Z':Cz) (st':St) (w':World):Prop where
 M:∀ b o,Z.M b=some o->Z'.M b=some o
 f:∀ r,Fgn Z st w r->Fgn Z' st' w' r/\w'.heap[r]?=w.heap[r]?
 pin:PinLe Z st Z' st'
theorem Later.trans{Z1 Z2 Z3:Cz}{s1 s2 s3:St}{w1 w2 w3:World}(h:Later Z1 s1 w1 Z2 s2 w2)(k:Later Z2 s2 w2 Z3 s3 w3):Later Z1 s1 w1 Z3 s3 w3 :=
 ⟨fun b o e=>k.M b o (h.M b o e),fun r hr=>by obtain⟨h1,h2⟩:=h.f r hr;obtain⟨k1,k2⟩:=k.f r h1;exact⟨k1,k2.trans h2⟩,h.pin.trans k.pin⟩
theorem Runs.frame{ac:AC}{code:Code}{Q:Exit->Act->World->Prop}(h:Runs P N ac st ex st')(hc:comp P N code=some ac)(hN:K.N=N)(hs:StRep K Z st w a)
  (hQ:∀ Z' w' a',StRep K Z' st' w' a'->PinLe Z st Z' st'->Later Z st w Z' st' w'->Q ex a' w'):code.wp P Q a w:=by
 subst hN;refine h code hc ⟨w,Z.M,ownB Z st,K.N⟩ Z w a Q rfl hs.root fun Z' w' a' hs' hp=>hQ Z' w' a' (hs.unroot hs') hp ⟨hs'.heap.m0,fun r hr=>hr.later hs',hp⟩
end
def zw0(s:St)(v:AV)(n:Nat):RV->Prop
 | .pure p=>toPV s FUEL v=some p/\(PIN,0)∉deps s FUEL v
 | .same l=>v=.own PIN 0 0 l/\l<=n
 | _=>False
def retM(rs:List (Nat × Option Nat))(sz:Nat)(es':List PV)(n:Nat)(res:RV):Exit->St->Prop
 | .ret,s=>∃ vs,zbd s rs=some vs/\s.obj PIN 0=some ⟨sz,es'.map .p⟩/\zw0 s (resOf vs) n res
 | .normal,s=>∃ vs,zbd s rs=some vs/\s.obj PIN 0=some ⟨sz,es'.map .p⟩/\zw0 s (resOf vs) n res
 | _,_=>False
attribute [simp] retM zw0 zdv ziw refM elsM
section
variable {P:Program} {N:Nat} {st:St}
theorem SpM.of_vm{f:FuncId}{args:List PV}{i sz:Nat}{p:PV}{es':List PV}{res:RV}{n np:Nat}{b:GC}{rs:List (Nat × Option Nat)}(hc:zac P f=some ⟨n,np,b.er,rs⟩)(hn:args.length<=n)(hp:args[i]?=some p)(hlen:es'.length=(elsM p).length)
  (h:vm P n (retM rs sz es' (elsM p).length res) [.code b] (zdv args i sz p)):SpM P f args i sz es' res:=by
 obtain⟨ex,s,r1,r2⟩:=zcq _ (yf8 _) h;have key:(ex=.ret\/ex=.normal)/\∃ vs,zbd s rs=some vs/\s.obj PIN 0=some ⟨sz,es'.map .p⟩/\zw0 s (resOf vs) (elsM p).length res:=by
  change retM rs sz es' (elsM p).length res ex s at r2
  cases ex with
  | ret=>exact⟨.inl rfl,r2⟩
  | normal=>exact⟨.inr rfl,r2⟩
  | _=>exact r2.elim
 obtain⟨k1,vs,r3,r4,r5⟩:=key;refine SpM.of_runs hc hn hp r1 k1 r3 r4 hlen ?_;unfold zw0 at r5;split at r5
 ·exact .pure _ _ _ r5.1 r5.2
 ·obtain⟨e1,e2⟩:=r5;rw[e1];exact .same _ _ e2
 ·exact r5.elim
theorem zfe{f:FuncId}{e:Nat}{vs:List AV}{args:List PV}{i sz:Nat}{es':List PV}{r:PV}{K:PCall->AV->St->Prop}(hs:SpM P f args i sz es' (.pure r))(hv:vs.mapM (toPV st FUEL)=some args)
  {s g len:Nat} {sl:Bool} (href:zi5 vs[i]?=some (s,g,len,sl)) {o:AObj} (ho:st.obj s g=some o) (hi:i<vs.length) (hl:len=o.es.length) (hl2:es'.length=len) (hsz:o.sz=sz) (hall:es'.all (fun v=>v.sz == sz)=true) (hone:(es'.flatMap PV.cells).all PV.one=true)
  (hni:((vs.eraseIdx i).flatMap (deps st FUEL)++o.es.flatMap (deps st 5)).contains (s,g)=false)
  (k:K ⟨f,args,.pure r,some (i,sz,es')⟩ (.p r) ((if (r.flatU&&es'.all PV.flat)=true then st else killAll st ((vs.eraseIdx i).flatMap (deps st FUEL)++o.es.flatMap (deps st 5))).setObj s g ⟨sz,es'.map .p⟩)):zg8 P st e f vs K:=by
 refine⟨⟨f,args,.pure r,some (i,sz,es')⟩,hs,.p r,_,(zfy (c:=⟨f,args,.pure r,some (i,sz,es')⟩) hv).trans ?_,k⟩;simp only[zey,zfz,href,ho];rw[yf1 ⟨hi,hl,hl2,hsz,hall,hone,hni⟩];rfl
theorem zvu{f:FuncId}{e:Nat}{vs:List AV}{args:List PV}{i sz:Nat}{es':List PV}{l:Nat}{K:PCall->AV->St->Prop}(hs:SpM P f args i sz es' (.same l))(hv:vs.mapM (toPV st FUEL)=some args)
  {s g len:Nat} (href:zi5 vs[i]?=some (s,g,len,true)) {o:AObj} (ho:st.obj s g=some o) (hi:i<vs.length) (hl:len=o.es.length) (hl2:es'.length=len) (hsz:o.sz=sz) (hall:es'.all (fun v=>v.sz == sz)=true) (hone:(es'.flatMap PV.cells).all PV.one=true)
  (hni:((vs.eraseIdx i).flatMap (deps st FUEL)++o.es.flatMap (deps st 5)).contains (s,g)=false) (hll:l<=len)
  (k:K ⟨f,args,.same l,some (i,sz,es')⟩ (.own s g 0 l) ((if (true&&es'.all PV.flat)=true then st else killAll st ((vs.eraseIdx i).flatMap (deps st FUEL)++o.es.flatMap (deps st 5))).setObj s g ⟨sz,es'.map .p⟩)):zg8 P st e f vs K:=by
 refine⟨⟨f,args,.same l,some (i,sz,es')⟩,hs,.own s g 0 l,_,(zfy (c:=⟨f,args,.same l,some (i,sz,es')⟩) hv).trans ?_,k⟩;simp only[zey,zfz,href,ho];rw[yf1 ⟨hi,hl,hl2,hsz,hall,hone,hni⟩,yf1 ⟨hll,trivial⟩];rfl
end
@[simp] theorem ya7(st:St)(vs:List AV):deps st FUEL (.tup vs)=vs.flatMap (deps st 5):=rfl
theorem zhb{P:Program}{N:Nat}{Q:Exit->St->Prop}{b:GC}{ks:List Kt}{st:St}
  (h:∀ R:Exit->St->Prop,(∀ s,vL P N Q b ks s->R .normal s)->(∀ s,Q .ret s->R .ret s)->(∀ id s,zb6 P N Q (zaw id ks) id s->R (.exit id) s)->vm P N R [.code b] st):vL P N Q b ks st:=by
 obtain⟨ex,s,r1,r2⟩:=zcq (P:=P) (N:=N) _ (yf8 _) (h (fun ex s=>(ex=.normal->vL P N Q b ks s)/\(ex ≠ .normal->semX P N Q ks ex s)) (fun s h=>⟨fun _=>h,fun h=>absurd rfl h⟩)
  (fun s h=>⟨fun h=>(by cases h),fun _=>zc9 h⟩) (fun id s h=>⟨fun h=>(by cases h),fun _=>zj4 (by simp) h (.inr ⟨id,rfl⟩)⟩))
 by_cases he:ex=.normal
 ·subst he;obtain⟨ex,s2,q1,q2⟩:=r2.1 rfl;exact⟨ex,s2,.next _ _ _ _ r1 q1,q2⟩
 ·exact⟨ex,s,.out _ _ _ r1 he,r2.2 he⟩
section
variable {α : Type} [Enc α]
theorem cells_one(h:∀ x : α,(enc x).cells.all PV.one=true)(l:List α):((ens l).flatMap PV.cells).all PV.one=true:=by simp only[yfp,yg3];rintro c ⟨v,hv,hc⟩;obtain⟨x,_,rfl⟩:=yf6.1 hv;exact yfp.1 (h x) c hc
theorem z7v(l:List α)(k:Nat):(avs l)[k]?=(l[k]?).map fun x=>.p (enc x):=by simp[-zat,avs,ens,yim,Function.comp_def]
theorem zgw(l:List α)(n:Nat)(h:Enc.sz α = n):(ens l).all (fun v=>v.sz == n)=true:=by simp only[yfp,beq_iff_eq];intro v hv;rw[zwj l v hv,h]
end
section
variable {P:Program} {N:Nat} {st st1:St}
theorem Weak.openRef{t n:Nat}{v:PV}(h:st.get t=.p (.ref v))(hn:v.sz=n):Weak st ⟨(t,.cp v n 0)::st.sl,st.hp⟩:=by
 intro K Z w a hs;have hobj:∀ s g,(⟨(t,.cp v n 0)::st.sl,st.hp⟩:St).obj s g=st.obj s g:=fun _ _=>rfl;have hz:ZLe Z st Z ⟨(t,.cp v n 0)::st.sl,st.hp⟩:=⟨fun _ _ h=>h,fun _=>yf8 _,fun _ _ _ h=>h,fun _ _ o h=>.inr ⟨o,h,rfl,rfl,rfl,rfl⟩⟩;refine⟨Z,⟨fun t'=>?_,hs.defers,hs.size,⟨fun s g o ho=>(hs.heap.objs s g o ho).later hz rfl rfl (fun _ _=>rfl),hs.heap.inj,hs.heap.mem,hs.heap.sep,hs.heap.own,hs.heap.m0,hs.heap.prov,hs.heap.keep⟩⟩,PinLe.of_zle hz⟩;by_cases ht:t'=t
 ·subst ht;have hr:=hs.slots t';rw[h]at hr;have hg:(⟨(t',.cp v n 0)::st.sl,st.hp⟩:St).get t'=.cp v n 0:=by simp[St.get,look]
  rw[hg];generalize a.tmps.getD t' Go.undef=x at hr;cases hr.inv_p with
  | ref _ b o cur T fr vals h0 h1 h2 h3 h4=>exact .cp v n 0 b o cur T fr vals h0 (by omega) hn h2 (AReps.to_p (Z:=Z) (st:=st) (AReps.of_p h3)) h4
 ·have hg:(⟨(t,.cp v n 0)::st.sl,st.hp⟩:St).get t'=st.get t':=by simp[St.get,look,ygr ht]
  rw[hg];exact(hs.slots t').mono hz
theorem Sp.of_vmW{f:FuncId}{args:List PV}{res:RV}{n np:Nat}{b:GC}{rs:List (Nat × Option Nat)}(hc:zac P f=some ⟨n,np,b.er,rs⟩)(hn:args.length<=n)(hw:Weak (zel args) st1)(h:vm P n (retP rs res) [.code b] st1):Sp P f args res:=by
 obtain⟨ex,s,r1,r2⟩:=zcq _ (yf8 _) h;have key:(ex=.ret\/ex=.normal)/\∃ vs,zbd s rs=some vs/\resP s (resOf vs) res:=by
  change retP rs res ex s at r2
  cases ex with
  | ret=>exact⟨.inl rfl,r2⟩
  | normal=>exact⟨.inr rfl,r2⟩
  | _=>exact r2.elim
 obtain⟨k1,vs,r3,r4⟩:=key;refine Sp.of_runs hc hn (Runs.weakL hw r1) k1 r3 ?_;unfold resP at r4;split at r4
 ·exact .pure _ _ r4
 ·split at r4
  ·rename_i sz es s' g off len hv;obtain⟨o,h1,rfl,h2,rfl,h4⟩:=r4;rw[hv];exact .fresh _ _ _ _ _ h1 h2 h4
  ·rename_i hv;rw[hv,r4];exact .nil _
  ·exact r4.elim
 ·exact r4.elim
end
mutual
def PV.nomp:PV->Bool
 | .sl es=>zd3 es
 | .agg cs=>zd3 cs
 | .fn _ cs=>zd3 cs
 | .bm _ v=>v.nomp
 | .ref v=>v.nomp
 | .tup vs=>zd3 vs
 | .mp _ _ _=>false
 | _=>true
def zd3:List PV->Bool
 | []=>true
 | v::r=>v.nomp&&zd3 r
end
theorem ze6:∀ {l:List PV},zd3 l=true ↔ ∀ v∈l,v.nomp=true
 | []=>by simp[zd3]
 | v::l=>by simp[zd3,ze6 (l:=l)]
theorem zip{v:PV}(h:v.nomp=true):zd3 v.cells=true:=by cases v<;>simp_all[PV.cells,zd3,PV.nomp]
theorem zrl{es:List PV}(h:zd3 es=true):zd3 (es.flatMap PV.cells)=true:=by rw[ze6]at h ⊢;intro c hc;obtain⟨e,he,hc⟩:=yg3.1 hc;exact ze6.1 (zip (h e he)) c hc
mutual
theorem PRep.nomp{M M':Nat->Option Obj}(hM:∀ b cur T fr,M b=some (.cells cur T fr)->M' b=some (.cells cur T fr)):∀ {v:PV} {x:Value},PRep M v x->v.nomp=true->PRep M' v x
 | _,_,.bool _,_=>.bool _
 | _,_,.int _ _,_=>.int _ _
 | _,_,.str _,_=>.str _
 | _,_,.nilfn,_=>.nilfn
 | _,_,.any _ h,_=>.any _ h
 | _,_,.nl _,_=>.nl _
 | _,_,.sle _ _,_=>.sle _ _
 | _,_,.mapv _,_=>.mapv _
 | _,_,.itv _,_=>.itv _
 | _,_,.mp _ _ _ _ _ _ _ _ _ _ _,hn=>by simp[PV.nomp]at hn
 | _,_,.sl0 _ _,_=>.sl0 _ _
 | _,_,.sl es b o cap cur T fr sz vals h0 h1 h2 h3 h4 h5 h6 h7,hn=>.sl es b o cap cur T fr sz vals (hM _ _ _ _ h0) h1 h2 h3 (PReps.nomp hM h4 (zrl (by simpa[PV.nomp]using hn))) h5 h6 h7
 | _,_,.agg cs vals h1 h,hn=>.agg cs vals h1 (PReps.nomp hM h (by simpa[PV.nomp]using hn))
 | _,_,.bm f v x h,hn=>.bm f v x (PRep.nomp hM h (by simpa[PV.nomp]using hn))
 | _,_,.fn f caps vals h,hn=>.fn f caps vals (PReps.nomp hM h (by simpa[PV.nomp]using hn))
 | _,_,.ref v b o cur T fr vals h0 h1 h2 h3 h4,hn=>.ref v b o cur T fr vals (hM _ _ _ _ h0) h1 h2 (PReps.nomp hM h3 (zip (by simpa[PV.nomp]using hn))) h4
 | _,_,.tup vs vals h,hn=>.tup vs vals (PReps.nomp hM h (by simpa[PV.nomp]using hn))
theorem PReps.nomp{M M':Nat->Option Obj}(hM:∀ b cur T fr,M b=some (.cells cur T fr)->M' b=some (.cells cur T fr)):∀ {v:List PV} {x:List Value},PReps M v x->zd3 v=true->PReps M' v x
 | _,_,.nil,_=>.nil
 | _,_,.cons v x vs xs h hs,hn=>.cons _ _ _ _ (PRep.nomp hM h (by simp only[zd3,yfr]at hn;exact hn.1)) (PReps.nomp hM hs (by simp only[zd3,yfr]at hn;exact hn.2))
end
structure FA where
 r:Nat
 p:(Nat->Option Obj)->Option Obj->Prop
 mono:∀ M M' o,(∀ b x,M b=some x->M' b=some x)->p M o->p M' o
 fz:Bool:=false
 nb:Bool:=false
 pin:Ctx->Cz->St->World->Prop:=fun _ _ _ _=>True
 pmono:∀ K Z st w Z' st' w',Later Z st w Z' st' w'->pin K Z st w->pin K Z' st' w':=by intros;trivial
def zea(A:Option FA)(K:Ctx)(Z:Cz)(st:St)(w:World):Prop :=
 match A with
 | none=>True
 | some A=>match A.nb with
  | true=>A.pin K Z st w
  | false=>match A.fz with
  | true=>K.M0 A.r=none/\(K.X0 A.r\/K.w0.heap.size<=A.r)
  | false=>Fgn Z st w A.r/\(K.X0 A.r\/K.w0.heap.size<=A.r)/\A.p Z.M (w.heap[A.r]?)
section
variable {P:Program} {K:Ctx} {Z Z':Cz} {st st' st1 st2:St} {w w':World} {a:Act} {N:Nat} {ex:Exit} {A B:Option FA} {Post Post':Exit->St->Option FA->Prop} {PostI:St->Option FA->Prop}
theorem zea.later(h:zea A K Z st w)(hl:Later Z st w Z' st' w'):zea A K Z' st' w':=by
 cases A with
 | none=>trivial
 | some A =>
  unfold zea at h ⊢;simp only at h ⊢;cases hn:A.nb with
  | true=>rw[hn]at h;exact A.pmono _ _ _ _ _ _ _ hl h
  | false =>
  rw[hn]at h;simp only at h ⊢;cases hz:A.fz with
  | true=>rw[hz]at h;exact h
  | false =>
   rw[hz]at h;obtain⟨h1,h2,h3⟩:=h;obtain⟨k1,k2⟩:=hl.f _ h1;refine⟨k1,h2,?_⟩;rw[k2];exact A.mono _ _ _ hl.M h3
theorem Weak.frame(h:Weak st st')(hs:StRep K Z st w a):∃ Z',StRep K Z' st' w a/\Later Z st w Z' st' w:=by obtain⟨Z',h1,h2⟩:=h _ _ _ _ hs.root;exact⟨Z',hs.unroot h1,⟨h1.heap.m0,fun r hr=>hr.later h1,h2⟩⟩
def MOp(P:Program)(N:Nat)(i:Ins)(st:St)(A:Option FA)(Post:St->Option FA->Prop):Prop :=
 ∀ (ops:Array Oper) (j:Nat) (o:Oper) (K:Ctx) (Z:Cz) (w:World) (a:Act) (Q:Exit->Act->World->Prop) (Kt:Act->World->Prop),K.N=N->ops[j]?=some o->zdx P N ops o=some i->StRep K Z st w a->zea A K Z st w ->
  (∀ st' A' Z' w' a',Post st' A'->StRep K Z' st' w' a'->zea A' K Z' st' w'->Kt a' w')->wpOp P ops Q j Kt a w
def MIns(P:Program)(N:Nat):List Ins->St->Option FA->(St->Option FA->Prop)->Prop
 | [],st,A,Post=>∃ st1,Weak st st1/\Post st1 A
 | i::is,st,A,Post=>MOp P N i st A fun s B=>MIns P N is s B Post
def MR(P:Program)(N:Nat)(ac:AC)(st:St)(A:Option FA)(Post:Exit->St->Option FA->Prop):Prop :=
 ∀ code,comp P N code=some ac->∀ (K:Ctx) (Z:Cz) (w:World) (a:Act) (Q:Exit->Act->World->Prop),K.N=N->StRep K Z st w a->zea A K Z st w ->
  (∀ ex st' A' Z' w' a',Post ex st' A'->StRep K Z' st' w' a'->zea A' K Z' st' w'->Q ex a' w')->code.wp P Q a w
theorem MOp.nat{orc:Option PCall}{i:Ins}(horc:zjs P orc)(he:exec orc st i=some st')(k:PostI st' A):MOp P N i st A PostI:=by intro ops j o K Z w a Q Kt hN hj hc hs hA hK;subst hN;refine zot (K:=⟨w,Z.M,ownB Z st,K.N⟩) hj hc hs.root horc he fun Z' w' a' hs' hp=>?_;exact hK _ _ _ _ _ k (hs.unroot hs') (hA.later ⟨hs'.heap.m0,fun r hr=>hr.later hs',hp⟩)
theorem MOp.weak{i:Ins}(h:Weak st st1)(k:MOp P N i st1 A PostI):MOp P N i st A PostI:=by intro ops j o K Z w a Q Kt hN hj hc hs hA hK;obtain⟨Z',h1,h2⟩:=h.frame hs;exact k ops j o K Z' w a Q Kt hN hj hc h1 (hA.later h2) hK
theorem MIns.run{is js:List Ins}{fs:List FP}(h:Run P is fs st st')(k:MIns P N js st' A PostI):MIns P N (is++js) st A PostI:=by
 induction h with
 | nil=>exact k
 | cons orc i is f fs st s1 st' h0 h1 h2 h3 ih=>exact .nat h0 h1 (ih k)
theorem MR.weak{ac:AC}(h:Weak st st1)(k:MR P N ac st1 A Post):MR P N ac st A Post:=by intro code hc K Z w a Q hN hs hA hQ;obtain⟨Z',h1,h2⟩:=h.frame hs;exact k code hc K Z' w a Q hN h1 (hA.later h2) hQ
theorem MR.of_runs{ac:AC}(h:Runs P N ac st ex st')(k:Post ex st' A):MR P N ac st A Post:=by intro code hc K Z w a Q hN hs hA hQ;exact h.frame hc hN hs fun Z' w' a' hs' _ hl=>hQ _ _ _ _ _ _ k hs' (hA.later hl)
theorem MR.of_vm{b:GC}(h:vm P N (fun ex s=>Post ex s A) [.code b] st):MR P N b.er st A Post:=by obtain⟨ex,s,r1,r2⟩:=zcq _ (yf8 _) h;exact .of_runs r1 r2
theorem MR.mono{ac:AC}(h:MR P N ac st A Post)(k:∀ ex s B,Post ex s B->Post' ex s B):MR P N ac st A Post' :=
 fun code hc K Z w a Q hN hs hA hQ=>h code hc K Z w a Q hN hs hA fun ex st' A' Z' w' a' hp=>hQ ex st' A' Z' w' a' (k _ _ _ hp)
theorem MR.seq{x y:AC}(h:MR P N x st A fun ex s B=>(ex=.normal->MR P N y s B Post)/\(ex ≠ .normal->Post ex s B)):MR P N (.seq x y) st A Post:=by
 intro code hc K Z w a Q hN hs hA hQ;obtain⟨c1,c2,rfl,h1,h2⟩:=zra hc;refine wp_seq (h c1 h1 K Z w a _ hN hs hA fun ex st' A' Z' w' a' hp hs' hA'=>?_);cases ex with
 | normal=>exact hp.1 rfl c2 h2 K Z' w' a' Q hN hs' hA' hQ
 | _=>exact hQ _ _ _ _ _ _ (hp.2 (by simp)) hs' hA'
theorem MR.cond{x y:AC}{c:Opd}{t:Bool}(hv:st.ev c=.p (.bool t))(h:MR P N (if t then x else y) st A Post):MR P N (.cond c x y) st A Post:=by
 intro code hc K Z w a Q hN hs hA hQ;obtain⟨o,c1,c2,rfl,h0,h1,h2⟩:=zui hc;have hr:=zaq h0 hs;rw[hv]at hr;refine wp_cond hr.inv_bool ?_;cases t with
 | true=>exact h c1 h1 K Z w a Q hN hs hA hQ
 | false=>exact h c2 h2 K Z w a Q hN hs hA hQ
def exB(id:Nat):Exit->Exit
 | .exit j=>if j=id then .normal else .exit j
 | e=>e
theorem MR.blk{x:AC}{id:Nat}(h:MR P N x st A fun ex s B=>Post (exB id ex) s B):MR P N (.blk id x) st A Post:=by
 intro code hc K Z w a Q hN hs hA hQ;obtain⟨b,rfl,h1⟩:=zo4 hc;refine wp_block (h b h1 K Z w a _ hN hs hA fun ex st' A' Z' w' a' hp hs' hA'=>?_);have hq:=hQ _ _ _ _ _ _ hp hs' hA';cases ex with
 | exit j=>by_cases hj:j=id<;>simp only[exB,hj,yf2,yf9,Exit.inBlock]at hq ⊢ <;> exact hq
 | _=>exact hq
theorem MR.ext{id:Nat}(h:Post (.exit id) st A):MR P N (.ext id) st A Post:=.of_runs .ext h
theorem MR.nop(h:Post .normal st A):MR P N .nop st A Post:=.of_runs .nop h
theorem MR.reg{is:List Ins}(h:MIns P N is st A fun s B=>Post .normal s B):MR P N (.reg is) st A Post:=by
 intro code hc K Z w a Q hN hs hA hQ;cases code<;>simp only[comp]at hc
 case region id ops draw =>
  split at hc
  ·split at hc
   ·obtain⟨l,_,h2⟩:=mapS hc;cases h2
   ·cases hc
  ·rename_i hd;obtain⟨l,h1,h2⟩:=mapS hc;cases h2;have:draw=false:=by simpa using hd
   subst this;refine wp_region ?_;subst hN;obtain⟨hl,hi⟩:=zbw h1
   have key:∀ (is:List Ins) (R:List Nat),R.length=is.length->(∀ (k x:Nat) (i:Ins),R[k]?=some x->is[k]?=some i->∃ o,ops[x]?=some o/\zdx P K.N ops o=some i)->∀ (st:St) (A:Option FA) (Z:Cz) (w:World) (a:Act),
     MIns P K.N is st A (fun s B=>Post .normal s B)->StRep K Z st w a->zea A K Z st w->wpOps P ops Q R a w:=by
    intro is
    induction is with
    | nil=>intro R hR _ st A Z w a h hs hA;cases R with
     | nil =>
      obtain⟨st1,hw,hp⟩:=h;obtain⟨Z',h1,h2⟩:=hw.frame hs;exact hQ _ _ _ _ _ _ hp h1 (hA.later h2)
     | cons _ _=>simp at hR
    | cons i is ih=>intro R hR hx st A Z w a h hs hA;cases R with
     | nil=>simp at hR
     | cons x R =>
      obtain⟨o,e1,e2⟩:=hx 0 x i rfl rfl;rw[wpOps_cons];exact h ops x o K Z w a Q _ rfl e1 e2 hs hA fun st' A' Z' w' a' hp hs' hA'=>ih R (by simpa using hR) (fun k x i hk hi=>hx (k+1) x i (by simpa using hk) (by simpa using hi)) st' A' Z' w' a' hp hs' hA'
   refine key is (List.range ops.size) (by rw[hl];simp) (fun k x i hk hi'=>?_) st A Z w a h hs hA;have hk':=yh6.1 hk;obtain⟨hlt,hkx⟩:=hk';simp at hlt hkx;subst hkx;obtain⟨x,e1,e2⟩:=hi k ops[k] (by simp[hlt]);rw[hi']at e2;cases e2;exact⟨ops[k],by simp[hlt],e1⟩
 all_goals (first|cases hc|(split at hc<;>cases hc)|(obtain⟨_,_,h2⟩:=mapS hc;cases h2))
theorem MIns.vm{is js:List Ins}{dead:List (List Nat)}(h:vm P N (fun ex s=>ex=.normal->MIns P N js s A PostI) [.ins is dead] st):MIns P N (is++js) st A PostI:=by
 obtain⟨gs,s1,s2,r1,r2,r3⟩:=zcq _ (yf8 _) h;refine .run r1 ?_;have:=r3 rfl;cases js with
 | nil =>
  obtain⟨s3,u1,u2⟩:=this;exact⟨s3,r2.trans u1,u2⟩
 | cons j js=>exact MOp.weak r2 this
theorem MR.loop_key{c:Code}{x:AC}(hc:comp P N c=some x){I:Nat->St->Option FA->Prop}(step:∀ n st A,I n st A->MR P N x st A fun ex s B=>(ex=.normal->∃ m,m<n/\I m s B)/\(ex ≠ .normal->Post ex s B))(hN:K.N=N) :
  ∀ (n n0:Nat),n0<n->∀ {st:St} {A:Option FA},I n0 st A->∀ {Z:Cz} {w:World} {a:Act} {Q:Exit->Act->World->Prop},StRep K Z st w a->zea A K Z st w->(∀ ex st' A' Z' w' a',Post ex st' A'->StRep K Z' st' w' a'->zea A' K Z' st' w'->Q ex a' w') ->
  ∀ (b:Frame) (k:List Go.Item) (cs:List Frame),∃ e a' w',Q e a' w'/\Arrives P (lone (b.at a (.code c::.inLoop c::k)) cs w) b k cs e a' w'
 | 0,_,h,_,_,_=>absurd h (yjj _)
 | n+1,n0,hn,st,A,hI=>by
  intro hs hA hQ b k cs;rename_i Z w a Q;obtain⟨e,a1,w1,⟨s1,B,Z1,q1,q2,q3⟩,harr⟩:=step n0 st A hI c hc K Z w a (fun e a' w'=>∃ s B Z',((e=.normal->∃ m,m<n0/\I m s B)/\(e ≠ .normal->Post e s B))/\StRep K Z' s w' a'/\zea B K Z' s w') hN hs hA (fun ex st' A' Z' w' a' hp hs' hA'=>⟨st',A',Z',hp,hs',hA'⟩) b (.inLoop c::k) cs;by_cases he:e=.normal
  ·subst he;obtain⟨m,hm,hIm⟩:=q1.1 rfl;obtain⟨e2,a2,w2,hq2,harr2⟩:=MR.loop_key hc step hN n m (by omega) hIm q2 q3 hQ b k cs;exact⟨e2,a2,w2,hq2,.of_steps (Steps.trans harr (.one step_inLoop)) harr2⟩
  ·exact⟨e,a1,w1,hQ _ _ _ _ _ _ (q1.2 he) q2 q3,.pass (x:=.inLoop c) rfl (fun _ _=>.inl he) harr⟩
theorem MR.loop{x:AC}{I:Nat->St->Option FA->Prop}(n:Nat)(hI:I n st A)(step:∀ n st A,I n st A->MR P N x st A fun ex s B=>(ex=.normal->∃ m,m<n/\I m s B)/\(ex ≠ .normal->Post ex s B)):MR P N (.loop x) st A Post:=by intro code hc K Z w a Q hN hs hA hQ;obtain⟨c,rfl,h1⟩:=ztp hc;intro b k cs;obtain⟨e,a',w',hq,harr⟩:=MR.loop_key h1 step hN (n+1) n (Nat.lt_succ_self _) hI hs hA hQ b k cs;exact⟨e,a',w',hq,.of_steps (.one step_loop) harr⟩
end
section
variable {P:Program} {K:Ctx} {Z Z':Cz} {st st' st1 st2:St} {w w':World} {a:Act} {N:Nat} {ex:Exit} {A B:Option FA} {PostI:St->Option FA->Prop}
theorem zma{c:Callee}{ts:Array TypeId}{as:List Opd}{r:Op}(h:zcp P c ts as=some (.raw r)):False:=by
 unfold zcp at h
 repeat' split at h
 all_goals first
  | cases h
  | (obtain⟨_,_,h⟩:=mapS h;cases h)
theorem za2{α : Type}{x:Option α}{f : α -> Option IOp}{r:Op}(h:x.bind f=some (.raw r))(k:∀ y,f y≠some (.raw r)):False:=by obtain⟨y,_,h⟩:=zcn h;exact k y h
theorem zd8{α : Type}{x:Option α}{f : α -> IOp}{r:Op}(h:x.map f=some (.raw r))(k:∀ y,f y ≠ .raw r):False:=by obtain⟨y,_,h⟩:=mapS h;exact k y h
theorem zqq{t:TypeId}{m k:Operand}{c:Bool}{r:Op}(h:zfu P t m k c=some (.raw r)):False:=by
 unfold zfu at h
 repeat' split at h
 all_goals first
  | exact za2 h fun _ h=>za2 h fun _ h=>za2 h fun _ h=>zd8 h fun _ h=>by cases h
  | cases h
theorem zov{t:TypeId}{x:Operand}{lo hi mx:Option Operand}{r:Op}(h:zfb P t x lo hi mx=some (.raw r)):False:=by
 unfold zfb at h
 repeat' split at h
 all_goals first
  | exact za2 h fun _ h=>za2 h fun _ h=>zd8 h fun _ h=>by cases h
  | cases h
theorem zsa{op:BinOp}{x y:Opd}{r:Op}(h:zhr op x y=some (.raw r)):False:=by
 unfold zhr at h
 repeat' split at h
 all_goals cases h
theorem zqo{fn:Fn}{x y:Array Operand}{r:Op}(h:zg6 fn x y=some (.raw r)):False:=by
 unfold zg6 at h
 repeat' split at h
 all_goals first
  | exact zd8 h fun _ h=>by cases h
  | cases h
theorem znd{op r:Op}(h:zb2 P op=some (.raw r)):op=r:=by
 cases op
 case call c=>exact(za2 h fun _ h=>zma h).elim
 case makeMap|mapUpdate|range|next|entry=>simp only[zb2,yf3,IOp.raw.injEq]at h;exact h
 case lookup t m k c=>exact(zqq h).elim
 case slice=>exact(zov h).elim
 case makeFunc=>exact(zqo h).elim
 case move|assign|alloc|box|nilCheck|extract=>exact(zd8 h fun _ h=>by cases h).elim
 case pick=>exact(za2 h fun _ h=>za2 h fun _ h=>zd8 h fun _ h=>by cases h).elim
 case binOp =>
  refine(za2 h fun _ h=>za2 h fun _ h=>?_).elim;split at h
  ·cases h
  ·cases h
  ·exact zsa h
  ·exact zd8 h fun _ h=>by cases h
 case unOp =>
  refine(za2 h fun _ h=>?_).elim;split at h<;>cases h
 case convert =>
  refine(za2 h fun _ h=>?_).elim;split at h<;>cases h
 case load=>refine(za2 h fun _ h=>?_).elim;split at h<;>cases h
 case store=>refine(za2 h fun _ h=>za2 h fun _ h=>?_).elim;split at h<;>cases h
 case build =>
  simp only[zb2]at h;split at h
  ·refine(za2 h fun _ h=>za2 h fun _ h=>?_).elim;split at h
   ·exact zd8 h fun _ h=>by cases h
   ·cases h
  ·refine(za2 h fun _ h=>za2 h fun _ h=>?_).elim;split at h
   ·exact zd8 h fun _ h=>by cases h
   ·cases h
  ·cases h
 case buildSlice =>
  simp only[zb2]at h;split at h
  ·exact(za2 h fun _ h=>zd8 h fun _ h=>by cases h).elim
  ·cases h
 case makeSlice =>
  simp only[zb2]at h;split at h
  ·refine(za2 h fun _ h=>za2 h fun _ h=>za2 h fun _ h=>?_).elim;split at h<;>cases h
  ·cases h
 case fieldAddr =>
  simp only[zb2]at h;split at h
  ·split at h
   ·split at h
    ·exact(zd8 h fun _ h=>by cases h).elim
    ·cases h
   ·cases h
  ·cases h
 case field =>
  simp only[zb2]at h;split at h
  ·split at h
   ·split at h
    ·exact(zd8 h fun _ h=>by cases h).elim
    ·cases h
   ·cases h
  ·cases h
 case indexAddr =>
  simp only[zb2]at h;split at h
  ·split at h
   ·exact(za2 h fun _ h=>zd8 h fun _ h=>by cases h).elim
   ·cases h
  ·split at h
   ·exact(za2 h fun _ h=>zd8 h fun _ h=>by cases h).elim
   ·cases h
  ·cases h
 case index =>
  simp only[zb2]at h;split at h
  ·split at h
   ·exact(za2 h fun _ h=>zd8 h fun _ h=>by cases h).elim
   ·cases h
  ·exact(za2 h fun _ h=>zd8 h fun _ h=>by cases h).elim
  ·cases h
 all_goals cases h
theorem zea.site(h:zea A K Z st w)(hs:∀ s,st'.site s=st.site s):zea A K Z st' w:=by refine h.later ⟨fun _ _ h=>h,fun r hr=>⟨⟨hr.m,fun s g o ho=>hr.o s g o (by rw[<- ho];exact(zae (hs s)).symm),hr.lt⟩,rfl⟩,.of_zle (zbk hs _)⟩
theorem MOp.raw{d:Option Nat}{op:Op} (h:∀ (K:Ctx) (Z:Cz) (w:World) (a:Act),K.N=N->StRep K Z st w a->zea A K Z st w->∀ o:Oper,o.op=op ->
  ∃ nx y w' v A' Z',(execOp a.eval o).run P w=.ok nx w'/\(nx=.value y\/(nx=.skip/\y=Go.undef))/\ARep Z' st v y/\HRep K Z' st w'/\ZLe Z st Z' st/\zea A' K Z' st w'/\PostI (st.put d v) A'):MOp P N ⟨d,.raw op,none⟩ st A PostI:=by
 intro ops j o K Z w a Q Kt hN hj hc hs hA hK;obtain⟨h1,h2,h3,h4⟩:=zdr hc;have hop:o.op=op:=znd h1;obtain⟨nx,y,w',v,A',Z',e1,e2,e3,e4,e5,e6,e7⟩:=h K Z w a hN hs hA o hop;have hg:o.guard=none:=by
  cases hg:o.guard with
  | none=>rfl
  | some jb =>
   obtain⟨j,b⟩:=jb;rw[hg]at h2;simp only[zds]at h2;split at h2<;>cases h2
 have hw:Region.wanted o (yielded ops a.tmps)=true:=by simp[Region.wanted,hg]
 have h3':d=o.dst:=h3;have fin:Kt (a.put o.dst y) w':=by refine hK _ _ _ _ _ e7 (?_:StRep K Z' (st.put d v) w' _) (e6.site fun s=>za6 st d v s);rw[h3'];exact hs.put rfl e5 e4 e3 (by subst hN;exact h4) hs.defers
 unfold wpOp;simp only[hj,hw,yf2];refine .inl ?_;unfold Oper.wp;rw[e1];rcases e2 with rfl|⟨rfl,rfl⟩
 ·exact fin
 ·exact fin
end
section
variable {P:Program} {K:Ctx} {Z Z':Cz} {st st' st1 st2:St} {w w':World} {a:Act} {N:Nat} {ex:Exit} {A B:Option FA} {PostI:St->Option FA->Prop}
theorem PReps.get'{M:Nat->Option Obj}:∀ {vs:List PV} {xs:List Value},PReps M vs xs->∀ (i:Nat) (x:Value),xs[i]?=some x->∃ v,vs[i]?=some v/\PRep M v x
 | _,_,.nil,i,x,h=>by simp at h
 | _,_,.cons u y _ _ h _,0,x,e=>by simp at e;subst e;exact⟨u,by simp,h⟩
 | _,_,.cons _ _ _ _ _ hs,i+1,x,e=>by simp at e;simpa using PReps.get' hs i x e
theorem HRep.world{X:Nat->Prop}(h:HRep K Z st w)(k:Keep w w' X)(hX:∀ b,X b->Z.M b=none/\(∀ s g o,st.obj s g=some o->Z.B s g≠some b)/\(K.X0 b\/K.w0.heap.size<=b)):HRep K Z st w':=by
 have hblk:∀ b o,w.heap[b]?=some o->¬ X b->w'.heap[b]?=some o:=fun b o hb hx=>by rw[k.blk b (ygh.1 hb).1 hx];exact hb
 refine⟨fun s g o ho=>?_,h.inj,fun b o hb=>hblk b o (h.mem b o hb) fun hx=>?_,h.sep,h.own,h.m0,h.prov,?_⟩
 ·have hO:=h.objs s g o ho;refine⟨hO.pos,hO.els,hO.one,hO.non,fun b hb=>?_⟩;obtain⟨cur,T,vals,k1,k2⟩:=hO.blk b hb;exact⟨cur,T,vals,hblk b _ k1 fun hx=>(hX b hx).2.1 s g o ho hb,k2⟩
 ·have:=(hX b hx).1;rw[hb]at this;cases this
 ·have k0:=h.keep;refine⟨k.os.trans k0.os,k.tape.trans k0.tape,k.output.trans k0.output,yf7 k0.drawn k.drawn,yf7 k0.size k.size,fun b hb hx=>?_⟩;rw[k.blk b (yfo hb k0.size) fun hX'=>by
   rcases(hX b hX').2.2 with h|h
   ·exact hx h
   ·omega]
  exact k0.blk b hb hx
theorem zm5(w:World)(o:Obj):Keep w (w.alloc o) fun _=>False :=
 ⟨rfl,rfl,rfl,yf8 _,by show w.heap.size<=(w.heap.push o).size;simp,fun b hb _=>by show(w.heap.push o)[b]?=_;rw[Array.getElem?_push_lt hb,Array.getElem?_eq_getElem hb]⟩
theorem ztu(w:World)(r:Nat)(o:Obj):Keep w (ChangeMaps.setBlock w r o) fun b=>b=r :=
 ⟨rfl,rfl,rfl,yf8 _,by show w.heap.size<=(w.heap.setIfInBounds r o).size;simp,fun b _ hb=>by show(w.heap.setIfInBounds r o)[b]?=_;simp[ygr hb]⟩
theorem zyq(w:World):Keep w w.drew fun _=>False:=⟨rfl,rfl,rfl,Nat.le_succ _,yf8 _,fun _ _ _=>rfl⟩
def zhn(r:Nat)(ks vs:List PV):FA:=⟨r,fun M o=>∃ es clock,o=some (.map es clock)/\zyb M ks vs es clock,by
 rintro M M' o hM ⟨es,clock,h0,h1,h2,h3⟩;exact⟨es,clock,h0,h1.mono hM,h2.mono hM,h3⟩,false,false,fun _ _ _ _=>True,fun _ _ _ _ _ _ _ _ h=>h⟩
def itFA(r rm:Nat)(ks vs:List PV)(L:List Nat)(cur:Option Nat):FA:=⟨r,fun M o=>∃ es clock seen,M rm=some (.map es clock)/\zyb M ks vs es clock/\o=some (.mapIter (some rm) clock seen clock) /\
  (∀ j e,es.toList[j]?=some e->(j∈L ↔ e.born∉seen))/\(∀ j∈L,j<ks.length)/\(∀ j,cur=some j->∃ (e:MapEntry) (seen':Array Nat),es.toList[j]?=some e/\seen=seen'.push e.born),by
 rintro M M' o hM ⟨es,clock,seen,h0,⟨h1,h2,h3⟩,h4⟩;exact⟨es,clock,seen,hM _ _ h0,⟨h1.mono hM,h2.mono hM,h3⟩,h4⟩,false,false,fun _ _ _ _=>True,fun _ _ _ _ _ _ _ _ h=>h⟩
theorem zrt{d:Option Nat}{t:TypeId}(k:∀ r,PostI (st.put d (.p (.mapv r))) (some (zhn r [] []))):MOp P N ⟨d,.raw (.makeMap t none),none⟩ st none PostI:=by
 refine .raw fun K Z w a hN hs hA o ho=>?_;have hrun:(Instr.makeMap t none).run P w=.ok (.map (some w.heap.size)) (w.alloc (.map #[] 0)):=by simp[Instr.makeMap,Result.andThen]
 refine⟨.value (.map (some w.heap.size)),.map (some w.heap.size),w.alloc (.map #[] 0),.p (.mapv w.heap.size),some (zhn w.heap.size [] []),Z,by simp[execOp,ho,hrun,Result.andThen],.inl rfl,.p _ _ (.mapv _),hs.heap.world (zm5 w _) (fun _ h=>h.elim),ZLe.refl Z st,?_,k _⟩;have hlt:∀ b o,w.heap[b]?=some o->b<w.heap.size:=fun b o h=>(ygh.1 h).1;refine⟨⟨?_,fun s g o ho hb=>?_,by show w.heap.size<(w.heap.push _).size;simp⟩,.inr hs.heap.keep.size,#[],0,(MapKept.heap_alloc w _).1,.nil,.nil,by simp,by simp,by simp⟩
 ·show Z.M w.heap.size=none;cases hm:Z.M w.heap.size with
  | none=>rfl
  | some o=>have:=hlt _ _ (hs.heap.mem _ _ hm);omega
 ·obtain⟨cur,T,vals,k1,_⟩:=(hs.heap.objs s g o ho).blk _ hb;have:w.heap.size<w.heap.size:=hlt _ _ k1;omega
theorem zx4{d:Option Nat}{t kt et:TypeId}{x rm:Nat}{ks vs:List PV}(ht:P.underlying t=some (.map kt et))(hx:st.get x=.p (.mp rm ks vs))(k:∀ r,PostI (st.put d (.p (.itv r))) (some (itFA r rm ks vs (List.range ks.length) none))) :
  MOp P N ⟨d,.raw (.range t (.tmp x)),none⟩ st none PostI:=by
 refine .raw fun K Z w a hN hs hA o ho=>?_;have hsl:=hs.slots x;rw[hx]at hsl;have hev:a.eval (.tmp x)=a.tmps.getD x Go.undef:=rfl;generalize a.tmps.getD x Go.undef=X at hsl hev;cases hsl.inv_p with
 | mp _ _ _ es clock m0 m1 m2 m3 m4 m5 =>
  have hb:=hs.heap.mem _ _ m0;have hrun:=run_range_map (P:=P) w t kt et rm es clock ht hb;refine⟨.value (.pointer (some ⟨w.heap.size,0,none⟩)),.pointer (some ⟨w.heap.size,0,none⟩),w.alloc (.mapIter (some rm) clock #[] clock),.p (.itv w.heap.size),some (itFA w.heap.size rm ks vs (List.range ks.length) none),Z,by simp[execOp,ho,hev,hrun,Result.andThen],.inl rfl,.p _ _ (.itv _),hs.heap.world (zm5 w _) (fun _ h=>h.elim),ZLe.refl Z st,?_,k _⟩;have hlt:∀ b o,w.heap[b]?=some o->b<w.heap.size:=fun b o h=>(Array.getElem?_eq_some_iff.1 h).1;have hkl:ks.length=es.toList.length:=by have:=m1.length;simpa using this.symm
  refine⟨⟨?_,fun s g o ho hb=>?_,by show w.heap.size<(w.heap.push _).size;simp⟩,.inr hs.heap.keep.size,es,clock,#[],m0,⟨m1,m2,m3,m4,m5⟩,(MapKept.heap_alloc w _).1,fun j e he=>?_,fun j hj=>by simpa using hj,by simp⟩
  ·show Z.M w.heap.size=none;cases hm:Z.M w.heap.size with
   | none=>rfl
   | some o=>have:=hlt _ _ (hs.heap.mem _ _ hm);omega
  ·obtain⟨cur,T,vals,k1,_⟩:=(hs.heap.objs s g o ho).blk _ hb;have:w.heap.size<w.heap.size:=hlt _ _ k1;omega
  ·have:=(List.getElem?_eq_some_iff.1 he).1;simp[hkl];simpa using this
theorem z12{d:Option Nat}{x r rm:Nat}{ks vs:List PV}{L:List Nat}{cur:Option Nat}(hx:st.get x=.p (.itv r))
  (k0:L=[]->PostI (st.put d (.p (.tup [.bool false]))) (some (itFA r rm ks vs L cur)))
  (k1:∀ j∈L,∀ kv vv,ks[j]?=some kv->vs[j]?=some vv->PostI (st.put d (.p (.tup [.bool true,kv,vv]))) (some (itFA r rm ks vs (L.filter fun i=>i≠j) (some j)))) :
  MOp P N ⟨d,.raw (.next (.tmp x) false),none⟩ st (some (itFA r rm ks vs L cur)) PostI:=by
 refine .raw fun K Z w a hN hs hA o ho=>?_;have hsl:=hs.slots x;rw[hx]at hsl;have hev:a.eval (.tmp x)=a.tmps.getD x Go.undef:=rfl;generalize a.tmps.getD x Go.undef=X at hsl hev;cases hsl.inv_p;obtain⟨hF,hX,es,clock,seen,m0,⟨m1,m2,m3,m4,m5⟩,hr,h1,h2,h3⟩:=hA;simp only[itFA]at hF hX hr;have hb:=hs.heap.mem _ _ m0;rcases run_next_at (P:=P) w o.type r rm clock clock seen es clock hr hb m4 (yf8 _)with⟨e1,e2⟩|⟨e,he,w1,e2,e3⟩
 ·have hL:L=[]:=by
   cases L with
   | nil=>rfl
   | cons j L =>
    exfalso;have hj:=h2 j (by simp);have hkl:ks.length=es.toList.length:=by have:=m1.length;simpa using this.symm
    have hj':j<es.toList.length:=by omega
    have hns:=(h1 j es.toList[j] (List.getElem?_eq_getElem hj')).1 (by simp);have:es.toList[j]∈(leftOf es seen).toList:=by simp only[leftOf,Array.toList_filter,List.mem_filter];exact⟨List.getElem_mem hj',by simpa using hns⟩
    have h0:(leftOf es seen).toList.length=0:=by simpa using e1
    rw[yjf.1 h0]at this;cases this
  exact⟨.value (.tuple #[.bool false]),.tuple #[.bool false],w,.p (.tup [.bool false]),some (itFA r rm ks vs L cur),Z,by simp[execOp,ho,hev,e2,Result.andThen],.inl rfl,.p _ _ (.tup _ _ (.cons _ _ _ _ (.bool _) .nil)),hs.heap,ZLe.refl Z st,⟨hF,hX,es,clock,seen,m0,⟨m1,m2,m3,m4,m5⟩,hr,h1,h2,h3⟩,k0 hL⟩
 ·have hmem:e∈es.toList/\e.born∉seen:=by simp only[leftOf,Array.toList_filter,List.mem_filter]at he;exact⟨he.1,by simpa using he.2⟩
  obtain⟨j,hj⟩:=List.getElem?_of_mem hmem.1;have hjL:j∈L:=(h1 j e hj).2 hmem.2;obtain⟨kv,g1,g2⟩:=m1.get' j e.key (by simp[hj]);obtain⟨vv,g3,g4⟩:=m2.get' j e.val (by simp[hj]);have hw1:Keep w w1 fun _=>False:=by rcases e2 with rfl|rfl;exact Keep.refl _ _;exact zyq w
  have hrlt:r<w.heap.size:=hF.lt
  have hH:HRep K Z st (ChangeMaps.setBlock w1 r (.mapIter (some rm) clock (seen.push e.born) clock)) :=
   (hs.heap.world hw1 fun _ h=>h.elim).world (ztu w1 r _) fun b hb=>by subst hb;exact⟨hF.m,hF.o,hX⟩
  have hsz:w1.heap.size=w.heap.size:=by rcases e2 with rfl|rfl<;>rfl
  refine⟨.value (.tuple #[.bool true,e.key,e.val]),.tuple #[.bool true,e.key,e.val],_,.p (.tup [.bool true,kv,vv]),some (itFA r rm ks vs (L.filter fun i=>i≠j) (some j)),Z,by simp[execOp,ho,hev,e3,Result.andThen],.inl rfl,.p _ _ (.tup _ [.bool true,e.key,e.val] (.cons _ _ _ _ (.bool _) (.cons _ _ _ _ g2 (.cons _ _ _ _ g4 .nil)))),hH,ZLe.refl Z st,?_,k1 j hjL kv vv g1 g3⟩;refine⟨⟨hF.m,hF.o,?_⟩,hX,es,clock,seen.push e.born,m0,⟨m1,m2,m3,m4,m5⟩,?_,fun i e' he'=>?_,fun i hi=>h2 i (yh0.1 hi).1,fun i hi=>?_⟩
  ·show r<(w1.heap.setIfInBounds r _).size;simp[hsz];exact hrlt
  ·show(w1.heap.setIfInBounds r _)[r]?=_;rw[ykh];simp[hsz,hrlt]
  ·rw[yh0,h1 i e' he'];simp only[Array.mem_push,not_or,decide_eq_true_eq];have hbne:e'.born≠e.born ↔ i≠j:=by
    constructor
    ·rintro h rfl;rw[hj]at he';cases he';exact h rfl
    ·intro h hbe;refine h ?_;have l1:=(List.getElem?_eq_some_iff.1 he');have l2:=(List.getElem?_eq_some_iff.1 hj);obtain⟨l1,q1⟩:=l1;obtain⟨l2,q2⟩:=l2;have hlen:i<(es.toList.map (·.born)).length:=by simpa using l1
     have hlen2:j<(es.toList.map (·.born)).length:=by simpa using l2
     exact(List.getElem_inj (h₀ := hlen) (h₁ := hlen2) m5).1 (by simp only[List.getElem_map,q1,q2,hbe])
   exact and_congr_right fun _=>hbne.symm
  ·cases hi;exact⟨e,seen,hj,rfl⟩
theorem zx5{d:Option Nat}{x r rm:Nat}{ks vs:List PV}{L:List Nat}{j:Nat}{kv vv:PV}(hx:st.get x=.p (.itv r))(hk:ks[j]?=some kv)(hv:vs[j]?=some vv)
  (k:PostI (st.put d (.p (.tup [kv,vv]))) (some (itFA r rm ks vs L (some j)))) :
  MOp P N ⟨d,.raw (.entry (.tmp x)),none⟩ st (some (itFA r rm ks vs L (some j))) PostI:=by
 refine .raw fun K Z w a hN hs hA o ho=>?_;have hsl:=hs.slots x;rw[hx]at hsl;have hev:a.eval (.tmp x)=a.tmps.getD x Go.undef:=rfl;generalize a.tmps.getD x Go.undef=X at hsl hev;cases hsl.inv_p;have hA0:=hA;obtain⟨hF,hX,es,clock,seen,m0,⟨m1,m2,m3,m4,m5⟩,hr,h1,h2,h3⟩:=hA;simp only[itFA]at hF hX hr;have hb:=hs.heap.mem _ _ m0;obtain⟨e,seen',hj,rfl⟩:=h3 j rfl;have hrun:=run_entry_at (P:=P) w r rm clock seen' es clock e hr hb (yhi hj) m5;obtain⟨kv',g1,g2⟩:=m1.get' j e.key (by simp[hj]);obtain⟨vv',g3,g4⟩:=m2.get' j e.val (by simp[hj]);rw[hk]at g1;cases g1;rw[hv]at g3;cases g3;exact⟨.value (.tuple #[e.key,e.val]),.tuple #[e.key,e.val],w,.p (.tup [kv,vv]),_,Z,by simp[execOp,ho,hev,hrun,Result.andThen],.inl rfl,.p _ _ (.tup _ [e.key,e.val] (.cons _ _ _ _ g2 (.cons _ _ _ _ g4 .nil))),hs.heap,ZLe.refl Z st,hA0,k⟩
end
end Go.Ab
