/-
Proofs for the law CountIsFinite, part 12. Conditions: none.
-/
import Derived.Test.YtdkocfjbmbenfaaGreatDoorDP11
import Derived.IntWalk
set_option maxRecDepth 100000
set_option maxHeartbeats 4000000
set_option linter.all false
namespace Go.Ab
section
variable (P:Program) (N:Nat) (Q:Exit->St->Prop)
def vmO (o:Outc) (d:Option Nat) (dd:List (List Nat)) (ks:List Kt):Prop:=runO (fun v s=>vm P N Q ks ((s.rep d v).dropI dd)) o
def z2p (st:St) (f:FuncId) (vs:List AV) (d:Option Nat) (dd:List (List Nat)) (ks:List Kt):Prop:=zfs P st (d.getD 0) f vs fun _ v s=>vm P N Q ks ((s.rep d v).dropI dd)
def zt7 (st:St) (f:AV) (vs:List AV) (d:Option Nat) (dd:List (List Nat)) (ks:List Kt):Prop:=zqm P st (d.getD 0) f vs fun _ v s=>vm P N Q ks ((s.rep d v).dropI dd)
def opnC (st:St) (op:IOp) (d:Option Nat) (dd:List (List Nat)) (ks:List Kt):Prop :=
 match op with
 | .call f args=>z2p P N Q st f (args.map st.ev) d dd ks
 | .callv x args=>zt7 P N Q st (st.ev x) (args.map st.ev) d dd ks
 | op=>vmO P N Q (oc st (d.getD 0) op) d dd ks
structure Dr where
 i:Ins
 is:List Ins
 fs:List FP
 pre:List (List Nat)
 dead:List (List Nat)
def z3h (st:St) (f:FuncId) (vs:List AV) (r:Dr) (ks:List Kt):Prop :=
 zfs P st (r.i.dst.getD 0) f vs fun c v s=>vm P N Q (.insD r.is (r.fs++[fp (some c) st r.i]) r.pre r.dead.tail::ks) ((s.rep r.i.dst v).dropI r.dead)
def zzm (st:St) (f:AV) (vs:List AV) (r:Dr) (ks:List Kt):Prop :=
 zqm P st (r.i.dst.getD 0) f vs fun c v s=>vm P N Q (.insD r.is (r.fs++[fp (some c) st r.i]) r.pre r.dead.tail::ks) ((s.rep r.i.dst v).dropI r.dead)
def zup (st:St) (op:IOp) (r:Dr) (ks:List Kt):Prop :=
 match op with
 | .call f args=>z3h P N Q st f (args.map st.ev) r ks
 | .callv x args=>zzm P N Q st (st.ev x) (args.map st.ev) r ks
 | op=>vmO P N Q (oc st (r.i.dst.getD 0) op) r.i.dst r.dead (.insD r.is (r.fs++[fp none st r.i]) r.pre r.dead.tail::ks)
inductive Tsk:Type 1
 | vm (ks:List Kt) (st:St)
 | o (o:Outc) (d:Option Nat) (dd:List (List Nat)) (ks:List Kt)
 | op (st:St) (op:IOp) (d:Option Nat) (dd:List (List Nat)) (ks:List Kt)
 | opD (st:St) (op:IOp) (r:Dr) (ks:List Kt)
def runT:Tsk->Prop
 | .vm ks st=>vm P N Q ks st
 | .o o d dd ks=>vmO P N Q o d dd ks
 | .op st op d dd ks=>opnC P N Q st op d dd ks
 | .opD st op r ks=>zup P N Q st op r ks
def tst (c:Bool) (X Y:Tsk):Prop:=(c=true->runT P N Q X)/\(c=false->runT P N Q Y)
def z5q (v:AV) (X Y:Tsk):Prop :=
 match v with
 | .p (.bool c)=>tst P N Q c X Y
 | _=>False
def zp0 (v:AV) (b:Bool) (X Y Y':Tsk):Prop :=
 match v with
 | .p (.bool c)=>if b=true then tst P N Q c X Y else tst P N Q c Y X
 | .skip=>runT P N Q Y'
 | _=>False
def zd0 (r:Option (List Kt)) (id:Nat) (st:St):Prop :=
 match r with
 | some ks=>vm P N Q ks st
 | none=>Q (.exit id) st
def atP {α : Type} (l:List α) (i:Nat) (K : α -> Prop):Prop:=∃ e,l[i]?=some e/\K e
end
section
variable {P:Program} {N:Nat} {Q:Exit->St->Prop} {st st1:St} {ks:List Kt} {d:Option Nat} {dead dd:List (List Nat)} {dl:List Nat} {α β : Type}
@[go_sem] theorem yci:vm P N Q [] st=Q .normal st:=by rw [vm]
@[go_sem] theorem ycl (j:Nat):vm P N Q (.blk j::ks) st=vm P N Q ks st:=by rw [vm]
@[go_sem] theorem yap:vm P N Q (.ins [] dead::ks) st=vm P N Q ks st:=by rw [vm]
@[go_sem] theorem z9c (fs:List FP) (pre:List (List Nat)):vm P N Q (.insD [] fs pre dead::ks) st=(chk [] 0 fs pre=true/\vm P N Q ks st):=by rw [vm]
@[go_sem] theorem ycj (op:IOp) (is:List Ins):vm P N Q (.ins (⟨d,op,none⟩::is) dead::ks) st=opnC P N Q st op d dead (.ins is dead.tail::ks):=by
 rw [vm]; simp only [zi9,opnC,opnP]; cases op<;>rfl
@[go_sem] theorem yan (op:IOp) (is:List Ins) (t:Nat) (b:Bool):vm P N Q (.ins (⟨d,op,some (t,b)⟩::is) dead::ks) st =
  zp0 P N Q (st.get t) b (.op (st.rep (some t) (.p (.bool b))) op d dead (.ins is dead.tail::ks)) (.vm (.ins is dead.tail::ks) (((st.rep (some t) (.p (.bool !b))).rep d .skip).dropI dead)) (.vm (.ins is dead.tail::ks) ((st.rep d .skip).dropI dead)):=by
 rw [vm]
 simp only [zi9,zp0]
 cases st.get t with
 | p v =>
  cases v with
  | bool c =>
   have e:∀ s,(opnP P s (d.getD 0) op fun _ v s=>vm P N Q (.ins is dead.tail::ks) ((s.rep d v).dropI dead))=opnC P N Q s op d dead (.ins is dead.tail::ks):=fun s=>by
    simp only [opnC,opnP]; cases op<;>rfl
   simp only [e]
   cases b<;>simp only [tst,runT,if_true,Bool.false_eq_true,if_false,Bool.not_true,Bool.not_false]
   rw [and_comm]
  | _=>rfl
 | _=>rfl
@[go_sem] theorem yao (op:IOp) (is:List Ins) (fs:List FP) (pre:List (List Nat)):vm P N Q (.insD (⟨d,op,none⟩::is) fs pre dead::ks) st=zup P N Q st op ⟨⟨d,op,none⟩,is,fs,pre,dead⟩ ks:=by
 rw [vm]; simp only [zi9,zup,opnP]; cases op<;>rfl
@[go_sem] theorem z9b (op:IOp) (is:List Ins) (t:Nat) (b:Bool) (fs:List FP) (pre:List (List Nat)):vm P N Q (.insD (⟨d,op,some (t,b)⟩::is) fs pre dead::ks) st =
  zp0 P N Q (st.get t) b (.opD (st.rep (some t) (.p (.bool b))) op ⟨⟨d,op,some (t,b)⟩,is,fs,pre,dead⟩ ks)
   (.vm (.insD is (fs++[fp none (st.rep (some t) (.p (.bool !b))) ⟨d,op,some (t,b)⟩]) pre dead.tail::ks) (((st.rep (some t) (.p (.bool !b))).rep d .skip).dropI dead))
   (.vm (.insD is (fs++[fp none st ⟨d,op,some (t,b)⟩]) pre dead.tail::ks) ((st.rep d .skip).dropI dead)):=by
 rw [vm]
 simp only [zi9,zp0]
 cases st.get t with
 | p v =>
  cases v with
  | bool c =>
   have e:∀ s,(opnP P s (d.getD 0) op fun c v s1=>vm P N Q (.insD is (fs++[fp c s ⟨d,op,some (t,b)⟩]) pre dead.tail::ks) ((s1.rep d v).dropI dead))=zup P N Q s op ⟨⟨d,op,some (t,b)⟩,is,fs,pre,dead⟩ ks:=fun s=>by
    simp only [zup,opnP]; cases op<;>rfl
   simp only [e]
   cases b<;>simp only [tst,runT,if_true,Bool.false_eq_true,if_false,Bool.not_true,Bool.not_false]
   rw [and_comm]
  | _=>rfl
 | _=>rfl
@[go_sem] theorem ych:vm P N Q (.code .nop::ks) st=vm P N Q ks st:=by rw [vm]
@[go_sem] theorem ycg (is:List Ins):vm P N Q (.code (.reg is dead)::ks) st=vm P N Q (.ins is dead::ks) st:=by rw [vm]
@[go_sem] theorem yal (is:List Ins) (pre:List (List Nat)):vm P N Q (.code (.regD is pre dead)::ks) st=vm P N Q (.insD is [] pre dead::ks) st:=by rw [vm]
@[go_sem] theorem yce (a b:GC):vm P N Q (.code (.seq a b)::ks) st=vm P N Q (.code a::.code b::ks) st:=by rw [vm]
@[go_sem] theorem yaq (c:Opd) (a b:GC):vm P N Q (.code (.cond c dl a b)::ks) st=z5q P N Q (st.ev c) (.vm (.code a::ks) (st.drop dl)) (.vm (.code b::ks) (st.drop dl)):=by
 rw [vm]; simp only [z2k,z5q]; cases st.ev c with
 | p v=>cases v<;>rfl
 | _=>rfl
@[go_sem] theorem z9d (id:Nat) (b:GC):vm P N Q (.code (.blk id b)::ks) st=vm P N Q (.code b::.blk id::ks) st:=by rw [vm]
@[go_sem] theorem yam (b:GC):vm P N Q (.code (.loop b)::ks) st=vL P N Q b ks st:=by rw [vm]
@[go_sem] theorem yck (id:Nat):vm P N Q (.code (.ext id)::ks) st=zd0 P N Q (zbh id ks) id st:=by
 rw [vm]; simp only [zd0]; split<;>rename_i h<;>simp only [h]
@[go_sem] theorem ycf:vm P N Q (.code .ret::ks) st=Q .ret st:=by rw [vm]
@[go_sem] theorem z6v (b:GC):vm P N Q (.code (.cut b)::ks) st=semX P N Q (.code b::ks) .normal st:=by rw [vm]
@[go_sem] theorem ycm:vm P N Q (.code .bad::ks) st=False:=by rw [vm]
@[go_sem] theorem z6w (c:Prop) (v:AV) (s:St):vmO P N Q (.ok c v s) d dd ks=(c/\vm P N Q ks ((s.rep d v).dropI dd)):=rfl
@[go_sem] theorem yat:vmO P N Q .bad d dd ks=False:=rfl
@[go_sem] theorem ycn (t:Bool) (a b:Outc):vmO P N Q (.br t a b) d dd ks=tst P N Q t (.o a d dd ks) (.o b d dd ks):=rfl
@[go_sem] theorem yas (x : α) (l:List α) (f : α -> Outc):vmO P N Q (.el (x::l) 0 f) d dd ks=vmO P N Q (f x) d dd ks:=by simp [vmO,runO]
@[go_sem] theorem yar (x : α) (l:List α) (n:Nat) (f : α -> Outc):vmO P N Q (.el (x::l) (n+1) f) d dd ks=vmO P N Q (.el l n f) d dd ks:=by simp [vmO,runO]
theorem zgw (l:List α) (n:Nat) (f : α -> Outc):vmO P N Q (.el l n f) d dd ks=atP l n fun x=>vmO P N Q (f x) d dd ks:=rfl
theorem zvw (g : α -> β) (l:List α) (n:Nat) (f : β -> Outc):vmO P N Q (.el (l.map g) n f) d dd ks=atP l n fun x=>vmO P N Q (f (g x)) d dd ks:=by
 simp only [vmO,runO,atP,List.getElem?_map,Option.map_eq_some_iff]
 exact propext ⟨fun ⟨e,⟨a,h1,h2⟩,h3⟩=>⟨a,h1,h2 ▸ h3⟩,fun ⟨a,h1,h2⟩=>⟨_,⟨a,h1,rfl⟩,h2⟩⟩
theorem zae {l:List α} {n:Nat} {K : α -> Prop} (h:n<l.length) (k:K l[n]):atP l n K:=⟨l[n],by simp [h],k⟩
theorem zjg {l:List α} {n:Nat} {x : α} {K : α -> Prop} (h:l[n]?=some x) (k:K x):atP l n K:=⟨x,h,k⟩
section
variable (X Y:Tsk)
@[go_sem] theorem z9e:tst P N Q true X Y=runT P N Q X:=by simp [tst]
@[go_sem] theorem z61:tst P N Q false X Y=runT P N Q Y:=by simp [tst]
@[go_sem] theorem z59 (p:Prop) [Decidable p]:tst P N Q (decide p) X Y=((p->runT P N Q X)/\(¬ p->runT P N Q Y)):=by simp [tst]
@[go_sem] theorem yav (c:Bool):tst P N Q (!c) X Y=tst P N Q c Y X:=by simp [tst,and_comm]
@[go_sem] theorem yay (a b:Bool):tst P N Q (a&&b) X Y=(((a&&b)=true->runT P N Q X)/\((a&&b)=false->runT P N Q Y)):=rfl
@[go_sem] theorem yco (a b:Bool):tst P N Q (a||b) X Y=(((a||b)=true->runT P N Q X)/\((a||b)=false->runT P N Q Y)):=rfl
@[go_sem] theorem yax [BEq α] (a b : α):tst P N Q (a == b) X Y=(((a == b)=true->runT P N Q X)/\((a == b)=false->runT P N Q Y)):=rfl
@[go_sem] theorem yaw [BEq α] (a b : α):tst P N Q (a != b) X Y=(((a != b)=true->runT P N Q X)/\((a != b)=false->runT P N Q Y)):=rfl
theorem zfu (c:Bool):tst P N Q c X Y=((c=true->runT P N Q X)/\(c=false->runT P N Q Y)):=rfl
end
attribute [go_sem] runT z5q zp0 zd0 opnC zup zt7 zzm zqm zbh
attribute [go_sem] optO brO natO zg8 z44 z1p elsO Outc.and oc zdk
attribute [go_sem] St.dropI
attribute [go_sem] St.ev St.get look St.rep rep St.drop zgg St.site St.obj St.alloc St.setObj killAll zjv
attribute [go_sem] AV.sz PV.sz AV.seg PV.seg PV.cells AV.cells AV.setSeg mkAgg allP zcq zcr AV.pur AV.pur1 AV.acells segL AV.one PV.one PV.flat PV.flat1 bbin abin zb9 zf7
attribute [go_sem] fp runs effR effW ze7 zce za2 zqo IOp.opds Opd.slots chk zk7 disj
@[go_sem] theorem z6r (f:FuncId) (caps:List PV) (vs:List AV):zt7 P N Q st (.p (.fn f caps)) vs d dd ks=z2p P N Q st f (vs++caps.map .p) d dd ks:=rfl
@[go_sem] theorem z86 (f:FuncId) (caps vs:List AV):zt7 P N Q st (.fn f caps) vs d dd ks=z2p P N Q st f (vs++caps) d dd ks:=rfl
theorem zfo {c:PCall} {e:Nat} {vs:List AV} (hv:vs.mapM (toPV st FUEL)=some c.args) (hn:zpx c.res=false:=by rfl):zcd (some c) st e c.f vs=zea c st e vs:=if_pos ⟨rfl,by rw [zxq hn]; exact hv⟩
theorem zaa {f:FuncId} {e:Nat} {vs:List AV} {args:List PV} {r:PV} {K:PCall->AV->St->Prop} (hs:Sp P f args (.pure r)) (hv:vs.mapM (toPV st FUEL)=some args)
  (k:K ⟨f,args,.pure r,none⟩ (.p r) (if r.flat then st else killAll st (vs.flatMap (deps st FUEL)))):zfs P st e f vs K :=
 ⟨⟨f,args,.pure r,none⟩,hs,.p r,_,zfo (c:=⟨f,args,.pure r,none⟩) hv,k⟩
theorem zaf {f:FuncId} {e:Nat} {vs:List AV} {args:List PV} {r:PV} {K:PCall->AV->St->Prop} (hs:Sp P f args (.pure r))
 (k:K ⟨f,args,.pure r,none⟩ (.p r) (if r.flat then st else killAll st (vs.flatMap (deps st FUEL)))) (hv:vs.mapM (toPV st FUEL)=some args:=by simp [go_sem]):zfs P st e f vs K:=zaa hs hv k
theorem zd9 {f:FuncId} {e:Nat} {vs:List AV} {args:List PV} {sz:Nat} {es:List PV} {K:PCall->AV->St->Prop} (hs:Sp P f args (.fresh sz es)) (hv:vs.mapM (toPV st FUEL)=some args)
  (h:es.all (fun v=>v.sz == sz)=true/\0<sz/\es.length<=LIM) (st1:St) (h1:st1=(if es.all PV.flat then st else killAll st (vs.flatMap (deps st FUEL))))
  (k:K ⟨f,args,.fresh sz es,none⟩ (.own e (st1.site e).length 0 es.length) (st1.alloc e ⟨sz,es.map .p⟩)):zfs P st e f vs K:=by
 subst h1
 refine ⟨⟨f,args,.fresh sz es,none⟩,hs,_,_,(zfo (c:=⟨f,args,.fresh sz es,none⟩) hv).trans ?_,k⟩
 simp only [zea,zev]
 rw [if_pos h]
 rfl
def zc1:AV->Bool
 | .undef=>false
 | _=>true
theorem zdo {f:FuncId} {e:Nat} {vs:List AV} {hp hp':List Site} {res:HV} {K:PCall->AV->St->Prop} (hs:HSpG P f vs hp none res hp' none) (hu:vs.all zc1=true) (hk:zbb st hp hp) (hks:hp'.map (·.1)=hp.map (·.1))
  (hr:(zav (hp.map (·.1)) vs&&hpOk (hp.map (·.1)) hp&&zeo (hp.map (·.1)) res&&hpOk (hp.map (·.1)) hp')=true)
  (k:K ⟨f,[],.hsp vs hp res hp',none⟩ (zdj res ⟨st.sl,hp'++st.hp⟩ e).1 (zdj res ⟨st.sl,hp'++st.hp⟩ e).2):zfs P st e f vs K :=
 ⟨⟨f,[],.hsp vs hp res hp',none⟩,hs,_,_,if_pos ⟨rfl,rfl,(fun h=>by have:=List.all_eq_true.1 hu _ h; cases this),hk,hks,hr⟩,k⟩
theorem zab {f:FuncId} {vs:List AV} {args:List PV} {r:PV} (hs:Sp P f args (.pure r)) (hv:vs.mapM (toPV st FUEL)=some args)
  (k:vm P N Q ks (((if r.flat then st else killAll st (vs.flatMap (deps st FUEL))).rep d (.p r)).dropI dd)):z2p P N Q st f vs d dd ks:=zaa hs hv k
theorem zah {f:FuncId} {vs:List AV} {args:List PV} {r:PV} {D:Dr} (hs:Sp P f args (.pure r)) (hv:vs.mapM (toPV st FUEL)=some args)
  (k:vm P N Q (.insD D.is (D.fs++[fp (some ⟨f,args,.pure r,none⟩) st D.i]) D.pre D.dead.tail::ks) (((if r.flat then st else killAll st (vs.flatMap (deps st FUEL))).rep D.i.dst (.p r)).dropI D.dead)):z3h P N Q st f vs D ks:=zaa hs hv k
theorem Loops.inv {b:AC} {α : Type} (S : α -> St) (I : α -> Prop) (m : α -> Nat)
  (step:∀ x,I x->∀ R:Exit->St->Prop,(∀ y s,Weak s (S y)->I y->m y<m x->R .normal s)->(∀ ex s,ex ≠ .normal->Q ex s->R ex s)->∃ ex s,Runs P N b (S x) ex s/\R ex s) :
  ∀ (n:Nat) (x : α),m x<n->I x->∀ {st:St},Weak st (S x)->∃ ex s,Loops P N b st ex s/\Q ex s
 | 0,_,h,_,_,_=>absurd h (Nat.not_lt_zero _)
 | n+1,x,h,hI,st,hw=>by
  obtain ⟨ex,s,r1,r2⟩:=step x hI (fun ex s=>(ex=.normal->∃ y,Weak s (S y)/\I y/\m y<m x)/\(ex ≠ .normal->Q ex s)) (fun y s h1 h2 h3=>⟨fun _=>⟨y,h1,h2,h3⟩,fun h=>absurd rfl h⟩) (fun ex s h1 h2=>⟨fun h=>absurd h h1,fun _=>h2⟩)
  by_cases he:ex=.normal
  ·subst he
   obtain ⟨y,y1,y2,y3⟩:=r2.1 rfl
   obtain ⟨ex,s2,q1,q2⟩:=Loops.inv S I m step n y (by omega) y2 y1
   exact ⟨ex,s2,Loops.weakL hw (.next _ _ _ _ r1 q1),q2⟩
  ·exact ⟨_,s,Loops.weakL hw (.out _ _ _ r1 he),r2.2 he⟩
def z74 (P:Program) (N:Nat) (Q:Exit->St->Prop) (ks:List Kt):Exit->St->Prop
 | .exit id,s=>zd0 P N Q (zbh id ks) id s
 | ex,s=>Q ex s
theorem zn7 {ex:Exit} {s:St} (he:ex ≠ .normal) (h:z74 P N Q ks ex s) (h2:ex=.ret\/∃ id,ex=.exit id):semX P N Q ks ex s:=by
 rcases h2 with rfl|⟨id,rfl⟩
 ·exact zdu h
 ·refine zey ?_
  simp only [z74,zd0] at h
  split at h
  ·rename_i hk; simp only [hk]; exact zcv _ (Nat.le_refl _) h
  ·rename_i hk; simp only [hk]; exact h
theorem zai {b:GC} {α : Type} (S : α -> St) (I : α -> Prop) (m : α -> Nat) (x0 : α) (h0:Weak st (S x0)) (hI:I x0)
  (step:∀ x,I x->∀ R:Exit->St->Prop,(∀ y s,Weak s (S y)->I y->m y<m x->R .normal s)->(∀ s,Q .ret s->R .ret s)->(∀ id s,zd0 P N Q (zbh id ks) id s->R (.exit id) s)->vm P N R [.code b] (S x)) :
  vL P N Q b ks st:=by
 refine Loops.inv (Q:=semX P N Q ks) S I m (fun x hx R h1 h2=>?_) (m x0+1) x0 (Nat.lt_succ_self _) hI h0
 obtain ⟨ex,s,r1,r2⟩:=zcv (P:=P) (N:=N) _ (Nat.le_refl _) (step x hx R h1 (fun s h=>h2 _ _ (by simp) (zdu h)) (fun id s h=>h2 _ _ (by simp) (zn7 (by simp) h (.inr ⟨id,rfl⟩))))
 exact ⟨ex,s,r1,r2⟩
end
end Go.Ab
namespace Go.Ab
class Enc (α : Type) where
 enc : α -> PV
 sz:Nat
 pos:0<sz
 ok:∀ x,(enc x).sz=sz
open Enc (enc)
def ens {α : Type} [Enc α] (l:List α):List PV:=l.map enc
def avs {α : Type} [Enc α] (l:List α):List AV:=(ens l).map .p
instance:Enc UInt32:=⟨fun x=>.int .u32 x.toNat,1,Nat.one_pos,fun _=>rfl⟩
instance:Enc UInt64:=⟨fun x=>.int .u64 x.toNat,1,Nat.one_pos,fun _=>rfl⟩
instance:Enc Int:=⟨fun x=>.int .i64 x,1,Nat.one_pos,fun _=>rfl⟩
instance:Enc Bool:=⟨fun x=>.bool x,1,Nat.one_pos,fun _=>rfl⟩
instance {α : Type} [Enc α]:Enc (List α):=⟨fun x=>.sl (ens x),1,Nat.one_pos,fun _=>rfl⟩
@[go_sem] theorem ybt (x:UInt32):enc x=.int .u32 x.toNat:=rfl
@[go_sem] theorem ybs (x:UInt64):enc x=.int .u64 x.toNat:=rfl
@[go_sem] theorem ybu (x:Int):enc x=.int .i64 x:=rfl
@[go_sem] theorem z9v (x:Bool):enc x=.bool x:=rfl
@[go_sem] theorem z9u {α : Type} [Enc α] (x:List α):enc x=.sl (ens x):=rfl
@[go_sem] theorem z8c:Enc.sz UInt32=1:=rfl
@[go_sem] theorem z8b:Enc.sz UInt64=1:=rfl
@[go_sem] theorem z8e:Enc.sz Int=1:=rfl
@[go_sem] theorem z6k:Enc.sz Bool=1:=rfl
@[go_sem] theorem z6j {α : Type} [Enc α]:Enc.sz (List α)=1:=rfl
section
variable {P:Program} {N:Nat} {Q:Exit->St->Prop} {st st1:St} {ks:List Kt} {d:Option Nat} {dd:List (List Nat)} {α β : Type} [Enc α] [Enc β]
@[go_sem] theorem zit (l:List α):(ens l).length=l.length:=by simp [ens]
@[go_sem] theorem zvo (l:List α):(avs l).length=l.length:=by simp [avs,ens]
@[go_sem] theorem ybq:ens ([]:List α)=[]:=rfl
@[go_sem] theorem z5w:avs ([]:List α)=[]:=rfl
@[go_sem] theorem z9n (x : α) (l:List α):ens (x::l)=enc x::ens l:=rfl
@[go_sem] theorem yaj (x : α) (l:List α):avs (x::l)=.p (enc x)::avs l:=rfl
@[go_sem] theorem z9m (l:List α) (n:Nat):(ens l).drop n=ens (l.drop n):=by simp [ens,List.map_drop]
@[go_sem] theorem z9l (l:List α) (n:Nat):(ens l).take n=ens (l.take n):=by simp [ens,List.map_take]
@[go_sem] theorem yai (l:List α) (n:Nat):(avs l).drop n=avs (l.drop n):=by simp [avs,ens,List.map_drop]
@[go_sem] theorem zt8 (l:List α) (n:Nat):(avs l).take n=avs (l.take n):=by simp [avs,ens,List.map_take]
@[go_sem] theorem zm8 (l r:List α):avs (l++r)=avs l++avs r:=by simp [avs,ens]
@[go_sem] theorem z8a (l:List α):(ens l).map AV.p=avs l:=rfl
theorem zwb (l:List α):∀ v∈ens l,v.sz=Enc.sz α := by
 intro v hv
 obtain ⟨x,_,rfl⟩:=List.mem_map.1 hv
 exact Enc.ok x
@[go_sem] theorem z0f (n:Nat) (l:List α):szsP n (ens l)=((n=Enc.sz α \/ l=[])/\0<n):=by
 simp only [szsP,ens,List.all_map,List.all_eq_true,Function.comp_apply,beq_iff_eq,Enc.ok]
 cases l with
 | nil=>simp
 | cons x l =>
  refine propext ⟨fun ⟨h,h2⟩=>⟨.inl (h x (by simp)).symm,h2⟩,fun ⟨h,h2⟩=>⟨fun y _=>?_,h2⟩⟩
  rcases h with h|h
  ·exact h.symm
  ·cases h
@[go_sem] theorem ya1 (n:Nat) (l:List α):szs n (avs l)=((n=Enc.sz α \/ l=[])/\0<n):=by
 have:szs n (avs l)=szsP n (ens l):=by
  simp only [szs,szsP,avs,List.all_map]
  congr 2
 rw [this,z0f]
@[go_sem] theorem z9h (n:Nat) (v:AV) (l:List AV):szs n (v::l)=(v.sz=n/\szs n l):=by simp [szs,and_assoc]
@[go_sem] theorem ya0 (n:Nat):szs n []=(0<n):=by simp [szs]
@[go_sem] theorem z6a (n:Nat) (l r:List AV):szs n (l++r)=(szs n l/\szs n r):=by
 simp only [szs,List.all_append,Bool.and_eq_true]; exact propext ⟨fun ⟨⟨a,b⟩,c⟩=>⟨⟨a,c⟩,b,c⟩,fun ⟨⟨a,c⟩,b,_⟩=>⟨⟨a,b⟩,c⟩⟩
@[go_sem] theorem ycd (l:List α):(avs l).map AV.pur=avs l:=by simp [avs,AV.pur]
@[go_sem] theorem z3m (l:List α) (n:Nat) (f:PV->Outc):vmO P N Q (.el (ens l) n f) d dd ks=atP l n fun x=>vmO P N Q (f (enc x)) d dd ks:=zvw enc l n f
@[go_sem] theorem yau (l:List α) (n:Nat) (f:AV->Outc):vmO P N Q (.el (avs l) n f) d dd ks=atP l n fun x=>vmO P N Q (f (.p (enc x))) d dd ks:=by
 unfold avs; rw [zvw,<- zgw,z3m]
@[go_sem] theorem ycc (l:List α) (n:Nat) (x : α):avs (l.set n x)=(avs l).set n (.p (enc x)):=by simp [avs,ens,List.map_set]
@[go_sem] theorem zfq (n:Nat) (x : α):avs (List.replicate n x)=List.replicate n (.p (enc x)):=by simp [avs,ens]
@[go_sem] theorem ycp (n:Nat) (st:St) (v:PV):toPV st (n+1) (.p v)=some v:=rfl
@[go_sem] theorem z65 (n:Nat) (st:St):toPV st (n+1) .nil=some (.sl []):=rfl
@[go_sem] theorem yaz (st:St) (v:PV):toPV st FUEL (.p v)=some v:=rfl
@[go_sem] theorem z68 (st:St):toPV st FUEL .nil=some (.sl []):=rfl
@[go_sem] theorem z8x (n:Nat) (st:St) (v:PV):deps st n (.p v)=[]:=by cases n<;>rfl
@[go_sem] theorem z8y (n:Nat) (st:St):deps st n .nil=[]:=by cases n<;>rfl
@[go_sem] theorem zx3 (n:Nat) (st:St) (l:List PV):(l.map AV.p).mapM (toPV st (n+1))=some l:=by
 induction l with
 | nil=>rfl
 | cons x l ih=>simp only [List.map_cons,List.mapM_cons,ih]; rfl
@[go_sem] theorem z1e (n:Nat) (st:St) (l:List α):(avs l).mapM (toPV st (n+1))=some (ens l):=zx3 n st _
@[go_sem] theorem zu7 (n:Nat) (st:St) (l:List PV):(l.map AV.p).flatMap (deps st n)=[]:=by
 induction l with
 | nil=>rfl
 | cons x l ih=>simp only [List.map_cons,List.flatMap_cons,ih,z8x]; rfl
@[go_sem] theorem z5b (n:Nat) (st:St) (l:List α):(avs l).flatMap (deps st n)=[]:=zu7 n st _
@[go_sem] theorem z81 (st:St) (s g off len:Nat):deps st FUEL (.own s g off len)=(s,g)::(match st.obj s g with|some o=>o.es.flatMap (deps st 5)|none=>[]):=rfl
@[go_sem] theorem z80 (st:St) (s g off len:Nat):deps st FUEL (.ptr s g off len)=(s,g)::(match st.obj s g with|some o=>o.es.flatMap (deps st 5)|none=>[]):=rfl
@[go_sem] theorem zv5 (st:St) (s g off len:Nat):toPV st FUEL (.own s g off len)=match st.obj s g with
  | some o=>if off+len<=o.es.length then (((o.es.drop off).take len).mapM (toPV st 5)).map .sl else none
  | none=>none:=rfl
@[go_sem] theorem z69 (st:St) (cs:List AV):toPV st FUEL (.agg cs)=(cs.mapM (toPV st 5)).map .agg:=rfl
@[go_sem] theorem z67 (st:St) (cs:List AV):toPV st FUEL (.tup cs)=(cs.mapM (toPV st 5)).map .tup:=rfl
@[go_sem] theorem z9g (st:St) (f:FuncId) (cs:List AV):toPV st FUEL (.fn f cs)=(cs.mapM (toPV st 5)).map (.fn f):=rfl
def resP (s:St) (v:AV):RV->Prop
 | .pure p=>toPV s FUEL v=some p
 | .fresh sz es=>match v with
  | .own s' g off len=>∃ o,s.obj s' g=some o/\off=0/\len=o.es.length/\o.sz=sz/\o.es=es.map .p
  | .nil=>es=[]
  | _=>False
 | _=>False
def retP (rs:List (Nat × Option Nat)) (res:RV):Exit->St->Prop
 | .ret,s=>∃ vs,zbc s rs=some vs/\resP s (resOf vs) res
 | .normal,s=>∃ vs,zbc s rs=some vs/\resP s (resOf vs) res
 | _,_=>False
attribute [go_sem] retP resP zbc ziz resOf zel zmy
theorem Sp.of_vm {f:FuncId} {args:List PV} {res:RV} {n np:Nat} {b:GC} {rs:List (Nat × Option Nat)} (hc:zac P f=some ⟨n,np,b.er,rs⟩) (hn:args.length<=n) (h:vm P n (retP rs res) [.code b] (zel args)):Sp P f args res:=by
 obtain ⟨ex,s,r1,r2⟩:=zcv _ (Nat.le_refl _) h
 have key:(ex=.ret\/ex=.normal)/\∃ vs,zbc s rs=some vs/\resP s (resOf vs) res:=by
  change retP rs res ex s at r2
  cases ex with
  | ret=>exact ⟨.inl rfl,r2⟩
  | normal=>exact ⟨.inr rfl,r2⟩
  | _=>exact r2.elim
 obtain ⟨k1,vs,r3,r4⟩:=key
 refine Sp.of_runs hc hn r1 k1 r3 ?_
 unfold resP at r4
 split at r4
 ·exact .pure _ _ r4
 ·split at r4
  ·rename_i sz es s' g off len hv
   obtain ⟨o,h1,rfl,h2,rfl,h4⟩:=r4
   rw [hv]
   exact .fresh _ _ _ _ _ h1 h2 h4
  ·rename_i hv; rw [hv,r4]; exact .nil _
  ·exact r4.elim
 ·exact r4.elim
end
end Go.Ab
namespace Go.Ab
open Enc (enc)
mutual
def okP:PV->Prop
 | .sl es=>es.length<=maxLen/\okL es
 | .agg cs=>okL cs
 | .ref v=>okP v
 | .fn _ cs=>okL cs
 | .tup vs=>okL vs
 | _=>True
def okL:List PV->Prop
 | []=>True
 | v::r=>okP v/\okL r
end
theorem zmj:∀ {l r:List PV},okL (l++r) ↔ okL l/\okL r
 | [],r=>by simp [okL]
 | v::l,r=>by simp [okL,zmj (l:=l),and_assoc]
theorem zpm (v:PV) (h:okL v.cells):okP v:=by
 cases v<;>simp only [PV.cells,okL,okP,and_true] at h ⊢ <;> exact h
theorem zsz:∀ {es:List PV},okL (es.flatMap PV.cells)->okL es
 | [],_=>trivial
 | e::es,h=>by
  rw [List.flatMap_cons,zmj] at h
  exact ⟨zpm e h.1,zsz h.2⟩
mutual
theorem PRep.okay {M:Nat->Option Obj}:∀ {v:PV} {x:Value},PRep M v x->okP v
 | _,_,.bool _=>by simp [okP]
 | _,_,.int _ _=>by simp [okP]
 | _,_,.str _=>by simp [okP]
 | _,_,.nilfn=>by simp [okP]
 | _,_,.any _ _=>by simp [okP]
 | _,_,.nl _=>by simp [okP]
 | _,_,.sle _ _=>by simp [okP]
 | _,_,.mapv _=>by simp [okP]
 | _,_,.itv _=>by simp [okP]
 | _,_,.mp _ _ _ _ _ _ _ _ _ _ _=>by simp [okP]
 | _,_,.sl0 _ _=>by simp [okP,okL]
 | _,_,.sl es b o cap cur T fr sz vals h0 h1 h2 h3 h4 h5 h6 h7=>by
  simp only [okP]; exact ⟨h7,zsz (PReps.okay h4)⟩
 | _,_,.agg cs vals _ h=>by simp only [okP]; exact PReps.okay h
 | _,_,.fn f caps vals h=>by simp only [okP]; exact PReps.okay h
 | _,_,.ref v b o cur T fr vals _ _ _ h _=>by simp only [okP]; exact zpm v (PReps.okay h)
 | _,_,.tup vs vals h=>by simp only [okP]; exact PReps.okay h
theorem PReps.okay {M:Nat->Option Obj}:∀ {v:List PV} {x:List Value},PReps M v x->okL v
 | _,_,.nil=>trivial
 | _,_,.cons v x vs xs h hs=>⟨PRep.okay h,PReps.okay hs⟩
end
section
variable {P:Program} {N:Nat} {Q:Exit->St->Prop} {st:St} {α β : Type} [Enc α] [Enc β]
theorem zir {f:FuncId} {C:FnC} (hc:zac P f=some C):∃ fn,P.funcs[f]?=some fn/\fn.body.isSome=true/\fn.name ≠ "runtime.NumGoroutine" := by
 unfold zac at hc
 split at hc
 ·rename_i fn hf
  split at hc
  ·rename_i hname
   split at hc
   ·rename_i c hb; exact ⟨fn,hf,by rw [hb]; rfl,hname⟩
   ·cases hc
  ·cases hc
 ·cases hc
theorem Sp.of_vm' {f:FuncId} {args:List PV} {res:RV} {n np:Nat} {b:GC} {rs:List (Nat × Option Nat)} (hc:zac P f=some ⟨n,np,b.er,rs⟩) (hn:args.length<=n) (h:okL args->vm P n (retP rs res) [.code b] (zel args)):Sp P f args res :=
 ⟨zir hc,fun w M vals hM hv=>(Sp.of_vm hc hn (h hv.okay)).2 w M vals hM hv⟩
theorem Sp.vz {f:FuncId} {args:List PV} {res:RV} {n np:Nat} {b:GC} {rs:List (Nat × Option Nat)} (hc:zac P f=some ⟨n,np,b.er,rs⟩) (h:okL args->vm P n (retP rs res) [.code b] (zel args)) (hn:args.length<=n:=by simp):Sp P f args res:=Sp.of_vm' hc hn h
theorem z7x {es:List PV} (h:okP (.sl es)):es.length<=maxLen:=by simp only [okP] at h; exact h.1
theorem zko {l:List α} (h:okP (.sl (ens l))):l.length<=9223372036854775807:=by have:=z7x h; simpa [zit,maxLen] using this
end
@[go_sem] theorem zr9 (n:Int):IntKind.u32.wrap n=n % 4294967296:=by simp [IntKind.wrap,IntKind.signed,IntKind.bits]
@[go_sem] theorem zz3 (n:Int):IntKind.u64.wrap n=n % 18446744073709551616:=by simp [IntKind.wrap,IntKind.signed,IntKind.bits]
@[go_sem] theorem yak (n:Int):IntKind.u8.wrap n=n % 256:=by simp [IntKind.wrap,IntKind.signed,IntKind.bits]
theorem wrap_i64 (n:Int):IntKind.i64.wrap n=(n+9223372036854775808) % 18446744073709551616 - 9223372036854775808:=by rw [IntKind.wrap_i64]
theorem i64w {n:Int} (h1 : -9223372036854775808<=n) (h2:n<=9223372036854775807):IntKind.i64.wrap n=n:=IntWalk.i64_in n ⟨h1,h2⟩
theorem i64s (k:Nat) (h:(k:Int)<=9223372036854775806):IntKind.i64.wrap ((k:Int)+1)=((k+1:Nat):Int):=by rw [i64w (by omega) (by omega)]; omega
end Go.Ab
namespace Go.Ab
section
variable {α : Type} [Enc α] {st st':St}
attribute [go_sem] St.weak? St.weakF? zgn mkSt idOf zeh zpp ren renL zbx zav zfd DEAD PIN PINB z02 LIM
@[go_sem] theorem z9k (fam:List Nat) (ids:List ((Nat × Nat) × Nat)) (l:List α):renL fam ids (avs l)=avs l:=z7j _
@[go_sem] theorem z33 (fam:List Nat) (ids:List ((Nat × Nat) × Nat)) (l r:List AV):renL fam ids (l++r)=renL fam ids l++renL fam ids r:=by simp [zb5]
@[go_sem] theorem zz0 (fam:List Nat) (ids:List ((Nat × Nat) × Nat)) (n:Nat) (v:AV):renL fam ids (List.replicate n v)=List.replicate n (ren fam ids v):=by simp [zb5]
@[go_sem] theorem z9j (fam:List Nat) (ids:List ((Nat × Nat) × Nat)) (l:List AV) (n:Nat) (v:AV):renL fam ids (l.set n v)=(renL fam ids l).set n (ren fam ids v):=by simp [zb5,List.map_set]
@[go_sem] theorem z6b (ks:List Nat) (l:List α):zav ks (avs l)=true:=by
 rw [zd1,List.all_eq_true]; intro v hv
 simp only [avs,List.mem_map] at hv
 obtain ⟨p,_,rfl⟩:=hv; rfl
theorem Weak.toF (keep fam:List Nat) (ids:List ((Nat × Nat) × Nat)) (h:st.weakF? keep fam ids=some st'):Weak st st':=Weak.ofF h
theorem Weak.to (keep:List Nat) (ids:List ((Nat × Nat) × Nat)) (h:st.weak? keep ids=some st'):Weak st st':=Weak.of h
theorem Weak.nl (t s sz:Nat) {st1:St} (h:st.nilSlot? t s sz=some st1) (k:Weak st1 st'):Weak st st':=(Weak.nilSlot h).trans k
end
end Go.Ab
namespace Go.Ab
theorem zvn {w:Nat} {x:Nat} (h:x<2^w):(BitVec.ofInt w (x:Int)).toNat=x:=by
 rw [BitVec.toNat_ofInt]; rw [Int.emod_eq_of_lt (by omega) (by exact_mod_cast h)]; rfl
theorem zq9 {x y:Nat} (hx:x<18446744073709551616) (hy:y<18446744073709551616):orI .u64 x y=((x ||| y:Nat):Int):=by
 have:=Nat.or_lt_two_pow (n:=64) (x:=x) (y:=y) hx hy
 show IntKind.u64.wrap (BitVec.ofInt 64 x ||| BitVec.ofInt 64 y).toNat=_
 rw [zz3,BitVec.toNat_or,zvn (by exact hx),zvn (by exact hy)]; omega
theorem zxh {x y:Nat} (hx:x<4294967296) (hy:y<4294967296):orI .u32 x y=((x ||| y:Nat):Int):=by
 have:=Nat.or_lt_two_pow (n:=32) (x:=x) (y:=y) hx hy
 show IntKind.u32.wrap (BitVec.ofInt 32 x ||| BitVec.ofInt 32 y).toNat=_
 rw [zr9,BitVec.toNat_or,zvn (by exact hx),zvn (by exact hy)]; omega
theorem z2v {x y:Nat} (hx:x<4294967296) (hy:y<4294967296):andI .u32 x y=((x &&& y:Nat):Int):=by
 have:=Nat.and_lt_two_pow (n:=32) x (y:=y) hy
 show IntKind.u32.wrap (BitVec.ofInt 32 x &&& BitVec.ofInt 32 y).toNat=_
 rw [zr9,BitVec.toNat_and,zvn (by exact hx),zvn (by exact hy)]; omega
theorem zxg {x y k:Nat} (h:y<2^k):(x*2^k) ||| y=x*2^k+y:=by
 rw [<- Nat.shiftLeft_eq,Nat.shiftLeft_add_eq_or_of_lt h]
theorem z4k {x y k:Nat} (h:y<2^k):y ||| (x*2^k)=x*2^k+y:=by rw [Nat.or_comm,zxg h]
end Go.Ab
namespace Go.Ab
@[go_sem] theorem z6z (x:UInt32):(x.toNat:Int) % 18446744073709551616=x.toNat:=by have:=x.toNat_lt; omega
@[go_sem] theorem z60 (x:UInt32):(x.toNat:Int) % 4294967296=x.toNat:=by have:=x.toNat_lt; omega
@[go_sem] theorem z6y (x:UInt64):(x.toNat:Int) % 18446744073709551616=x.toNat:=by have:=x.toNat_lt; omega
theorem z7a (x y:Nat):((x:Nat):Int).tdiv (y:Int)=((x / y:Nat):Int):=by rw [Int.tdiv_eq_ediv_of_nonneg (by omega)]; exact (Int.natCast_ediv x y).symm
theorem z0b (x y:Nat):((x:Nat):Int).tmod (y:Int)=((x % y:Nat):Int):=by rw [Int.tmod_eq_emod_of_nonneg (by omega)]; exact (Int.natCast_emod x y).symm
theorem zxf {r x k:Nat} (hr:r*2^k<18446744073709551616) (hx:x<2^k) (hx2:x<18446744073709551616):orI .u64 ((r:Int)*2^k % 18446744073709551616) x=((r*2^k+x:Nat):Int):=by
 have e:((r:Int)*2^k % 18446744073709551616)=((r*2^k:Nat):Int):=by
  have:((r:Int)*2^k)=((r*2^k:Nat):Int):=by simp
  rw [this]; omega
 rw [e,zq9 hr hx2,zxg hx]
theorem z4j {r x k:Nat} (hr:r*2^k<18446744073709551616) (hx:x<2^k) (hx2:x<18446744073709551616):orI .u64 x ((r:Int)*2^k % 18446744073709551616)=((r*2^k+x:Nat):Int):=by
 have e:((r:Int)*2^k % 18446744073709551616)=((r*2^k:Nat):Int):=by
  have:((r:Int)*2^k)=((r*2^k:Nat):Int):=by simp
  rw [this]; omega
 rw [e,zq9 hx2 hr,z4k hx]
section
variable {st:St} {α : Type} [Enc α]
theorem zcz {s g n sz:Nat} {es:List AV} {l:List α} (ho:st.obj s g=some ⟨sz,es⟩) (he:es=avs l) (hn:n=l.length):toPV st FUEL (.own s g 0 n)=some (.sl (ens l)):=by
 subst he hn
 simp only [zv5,ho,zvo,Nat.zero_add,Nat.le_refl,if_true,List.drop_zero,zt8,List.take_length,z1e,Option.map_some]
theorem zbz {v:AV} {vs:List AV} {p:PV} {ps:List PV} (h:toPV st FUEL v=some p) (k:vs.mapM (toPV st FUEL)=some ps):(v::vs).mapM (toPV st FUEL)=some (p::ps):=by
 simp only [List.mapM_cons,h,k]; rfl
theorem zcj:([]:List AV).mapM (toPV st FUEL)=some []:=rfl
end
end Go.Ab
namespace Go.Ab
open Enc (enc)
attribute [go_sem] St.put St.nilSlot?
@[go_sem] theorem z64 (n:Nat) (st:St) (cs:List AV):toPV st (n+1) (.agg cs)=(cs.mapM (toPV st n)).map .agg:=rfl
@[go_sem] theorem z62 (n:Nat) (st:St) (cs:List AV):toPV st (n+1) (.tup cs)=(cs.mapM (toPV st n)).map .tup:=rfl
@[go_sem] theorem z9f (n:Nat) (st:St) (f:FuncId) (cs:List AV):toPV st (n+1) (.fn f cs)=(cs.mapM (toPV st n)).map (.fn f):=rfl
@[go_sem] theorem z63 (n:Nat) (st:St) (s g off len:Nat):toPV st (n+1) (.own s g off len)=match st.obj s g with
  | some o=>if off+len<=o.es.length then (((o.es.drop off).take len).mapM (toPV st n)).map .sl else none
  | none=>none:=rfl
@[go_sem] theorem z8u (n:Nat) (st:St) (s g off len:Nat):deps st (n+1) (.own s g off len)=(s,g)::(match st.obj s g with|some o=>o.es.flatMap (deps st n)|none=>[]):=rfl
@[go_sem] theorem z8t (n:Nat) (st:St) (s g off len:Nat):deps st (n+1) (.ptr s g off len)=(s,g)::(match st.obj s g with|some o=>o.es.flatMap (deps st n)|none=>[]):=rfl
@[go_sem] theorem z8w (n:Nat) (st:St) (cs:List AV):deps st (n+1) (.agg cs)=cs.flatMap (deps st n):=rfl
@[go_sem] theorem z82 (st:St) (cs:List AV):deps st FUEL (.agg cs)=cs.flatMap (deps st 5):=rfl
@[go_sem] theorem yah (st:St) (f:FuncId) (cs:List AV):deps st FUEL (.fn f cs)=cs.flatMap (deps st 5):=rfl
end Go.Ab
namespace Go.Ab
section
variable {P:Program} {K:Ctx} {Z Z':Cz} {st st' st1 st2:St} {w w':World} {a:Act} {N:Nat} {ex:Exit}
theorem StRep.root (hs:StRep K Z st w a):StRep ⟨w,Z.M,ownB Z st,K.N⟩ Z st w a :=
 ⟨hs.slots,hs.defers,hs.size,⟨hs.heap.objs,hs.heap.inj,hs.heap.mem,hs.heap.sep,fun s g o _ ho hb=>.inl ⟨s,g,o,ho,hb⟩,fun _ _ h=>h,fun _ _ h=>.inl h,Keep.refl w _⟩⟩
theorem StRep.unroot {a':Act} (hs:StRep K Z st w a) (hs':StRep ⟨w,Z.M,ownB Z st,K.N⟩ Z' st' w' a'):StRep K Z' st' w' a':=by
 have hown:∀ b,ownB Z st b->K.X0 b\/K.w0.heap.size<=b:=fun b ⟨s,g,o,ho,hb⟩=>hs.heap.own s g o b ho hb
 have hsz:=hs.heap.keep.size
 refine ⟨hs'.slots,hs'.defers,hs'.size,⟨hs'.heap.objs,hs'.heap.inj,hs'.heap.mem,hs'.heap.sep,fun s g o b ho hb=>?_,fun b o h=>hs'.heap.m0 b o (hs.heap.m0 b o h),fun b o h=>?_,?_⟩⟩
 ·rcases hs'.heap.own s g o b ho hb with h|h
  ·exact hown b h
  ·exact .inr (Nat.le_trans hsz h)
 ·rcases hs'.heap.prov b o h with h|h|h
  ·exact hs.heap.prov b o h
  ·rcases hown b h with h|h
   ·exact .inr (.inl h)
   ·exact .inr (.inr h)
  ·exact .inr (.inr (Nat.le_trans hsz h))
 ·have k1:=hs.heap.keep
  have k2:=hs'.heap.keep
  refine ⟨k2.os.trans k1.os,k2.tape.trans k1.tape,k2.output.trans k1.output,Nat.le_trans k1.drawn k2.drawn,Nat.le_trans k1.size k2.size,fun b hb hx=>?_⟩
  rw [k2.blk b (Nat.lt_of_lt_of_le hb k1.size) (fun h=>by rcases hown b h with h|h; exact hx h; omega),k1.blk b hb hx]
theorem Fgn.later {a':Act} {r:Nat} (hf:Fgn Z st w r) (hs':StRep ⟨w,Z.M,ownB Z st,N⟩ Z' st' w' a'):Fgn Z' st' w' r/\w'.heap[r]?=w.heap[r]?:=by
 have hno:¬ ownB Z st r:=fun ⟨s,g,o,ho,hb⟩=>hf.o s g o ho hb
 refine ⟨⟨?_,fun s g o ho hb=>?_,Nat.lt_of_lt_of_le hf.lt hs'.heap.keep.size⟩,hs'.heap.keep.blk r hf.lt hno⟩
 ·cases hm:Z'.M r with
  | none=>rfl
  | some o =>
   rcases hs'.heap.prov r o hm with h|h|h
   ·have h':Z.M r=some o:=h
    rw [hf.m] at h'; cases h'
   ·exact absurd h hno
   ·have h':w.heap.size<=r:=h
    have:=hf.lt; omega
 ·rcases hs'.heap.own s g o r ho hb with h|h
  ·exact hno h
  ·have h':w.heap.size<=r:=h
   have:=hf.lt; omega
structure Later (Z:Cz) (st:St) (w:World) (Z':Cz) (st':St) (w':World):Prop where
 M:∀ b o,Z.M b=some o->Z'.M b=some o
 f:∀ r,Fgn Z st w r->Fgn Z' st' w' r/\w'.heap[r]?=w.heap[r]?
 pin:PinLe Z st Z' st'
theorem Later.trans {Z1 Z2 Z3:Cz} {s1 s2 s3:St} {w1 w2 w3:World} (h:Later Z1 s1 w1 Z2 s2 w2) (k:Later Z2 s2 w2 Z3 s3 w3):Later Z1 s1 w1 Z3 s3 w3 :=
 ⟨fun b o e=>k.M b o (h.M b o e),fun r hr=>by obtain ⟨h1,h2⟩:=h.f r hr; obtain ⟨k1,k2⟩:=k.f r h1; exact ⟨k1,k2.trans h2⟩,h.pin.trans k.pin⟩
theorem Runs.frame {ac:AC} {code:Code} {Q:Exit->Act->World->Prop} (h:Runs P N ac st ex st') (hc:comp P N code=some ac) (hN:K.N=N) (hs:StRep K Z st w a)
  (hQ:∀ Z' w' a',StRep K Z' st' w' a'->PinLe Z st Z' st'->Later Z st w Z' st' w'->Q ex a' w'):code.wp P Q a w:=by
 subst hN
 refine h code hc ⟨w,Z.M,ownB Z st,K.N⟩ Z w a Q rfl hs.root fun Z' w' a' hs' hp=>hQ Z' w' a' (hs.unroot hs') hp ⟨hs'.heap.m0,fun r hr=>hr.later hs',hp⟩
end
end Go.Ab
namespace Go.Ab
open Enc (enc)
def zwy (s:St) (v:AV) (n:Nat):RV->Prop
 | .pure p=>toPV s FUEL v=some p/\(PIN,0)∉deps s FUEL v
 | .same l=>v=.own PIN 0 0 l/\l<=n
 | _=>False
def retM (rs:List (Nat × Option Nat)) (sz:Nat) (es':List PV) (n:Nat) (res:RV):Exit->St->Prop
 | .ret,s=>∃ vs,zbc s rs=some vs/\s.obj PIN 0=some ⟨sz,es'.map .p⟩/\zwy s (resOf vs) n res
 | .normal,s=>∃ vs,zbc s rs=some vs/\s.obj PIN 0=some ⟨sz,es'.map .p⟩/\zwy s (resOf vs) n res
 | _,_=>False
attribute [go_sem] retM zwy zdl ziq refM elsM
section
variable {P:Program} {N:Nat} {st:St}
theorem SpM.of_vm {f:FuncId} {args:List PV} {i sz:Nat} {p:PV} {es':List PV} {res:RV} {n np:Nat} {b:GC} {rs:List (Nat × Option Nat)} (hc:zac P f=some ⟨n,np,b.er,rs⟩) (hn:args.length<=n) (hp:args[i]?=some p) (hlen:es'.length=(elsM p).length)
  (h:vm P n (retM rs sz es' (elsM p).length res) [.code b] (zdl args i sz p)):SpM P f args i sz es' res:=by
 obtain ⟨ex,s,r1,r2⟩:=zcv _ (Nat.le_refl _) h
 have key:(ex=.ret\/ex=.normal)/\∃ vs,zbc s rs=some vs/\s.obj PIN 0=some ⟨sz,es'.map .p⟩/\zwy s (resOf vs) (elsM p).length res:=by
  change retM rs sz es' (elsM p).length res ex s at r2
  cases ex with
  | ret=>exact ⟨.inl rfl,r2⟩
  | normal=>exact ⟨.inr rfl,r2⟩
  | _=>exact r2.elim
 obtain ⟨k1,vs,r3,r4,r5⟩:=key
 refine SpM.of_runs hc hn hp r1 k1 r3 r4 hlen ?_
 unfold zwy at r5
 split at r5
 ·exact .pure _ _ _ r5.1 r5.2
 ·obtain ⟨e1,e2⟩:=r5; rw [e1]; exact .same _ _ e2
 ·exact r5.elim
theorem ze8 {f:FuncId} {e:Nat} {vs:List AV} {args:List PV} {i sz:Nat} {es':List PV} {r:PV} {K:PCall->AV->St->Prop} (hs:SpM P f args i sz es' (.pure r)) (hv:vs.mapM (toPV st FUEL)=some args)
  {s g len:Nat} {sl:Bool} (href:zi1 vs[i]?=some (s,g,len,sl)) {o:AObj} (ho:st.obj s g=some o) (hi:i<vs.length) (hl:len=o.es.length) (hl2:es'.length=len) (hsz:o.sz=sz) (hall:es'.all (fun v=>v.sz == sz)=true) (hone:(es'.flatMap PV.cells).all PV.one=true)
  (hni:((vs.eraseIdx i).flatMap (deps st FUEL)++o.es.flatMap (deps st 5)).contains (s,g)=false)
  (k:K ⟨f,args,.pure r,some (i,sz,es')⟩ (.p r) ((if (r.flat&&es'.all PV.flat)=true then st else killAll st ((vs.eraseIdx i).flatMap (deps st FUEL)++o.es.flatMap (deps st 5))).setObj s g ⟨sz,es'.map .p⟩)):zfs P st e f vs K:=by
 refine ⟨⟨f,args,.pure r,some (i,sz,es')⟩,hs,.p r,_,(zfo (c:=⟨f,args,.pure r,some (i,sz,es')⟩) hv).trans ?_,k⟩
 simp only [zea,zfp,href,ho]
 rw [if_pos ⟨hi,hl,hl2,hsz,hall,hone,hni⟩]
 rfl
theorem zvk {f:FuncId} {e:Nat} {vs:List AV} {args:List PV} {i sz:Nat} {es':List PV} {l:Nat} {K:PCall->AV->St->Prop} (hs:SpM P f args i sz es' (.same l)) (hv:vs.mapM (toPV st FUEL)=some args)
  {s g len:Nat} (href:zi1 vs[i]?=some (s,g,len,true)) {o:AObj} (ho:st.obj s g=some o) (hi:i<vs.length) (hl:len=o.es.length) (hl2:es'.length=len) (hsz:o.sz=sz) (hall:es'.all (fun v=>v.sz == sz)=true) (hone:(es'.flatMap PV.cells).all PV.one=true)
  (hni:((vs.eraseIdx i).flatMap (deps st FUEL)++o.es.flatMap (deps st 5)).contains (s,g)=false) (hll:l<=len)
  (k:K ⟨f,args,.same l,some (i,sz,es')⟩ (.own s g 0 l) ((if (true&&es'.all PV.flat)=true then st else killAll st ((vs.eraseIdx i).flatMap (deps st FUEL)++o.es.flatMap (deps st 5))).setObj s g ⟨sz,es'.map .p⟩)):zfs P st e f vs K:=by
 refine ⟨⟨f,args,.same l,some (i,sz,es')⟩,hs,.own s g 0 l,_,(zfo (c:=⟨f,args,.same l,some (i,sz,es')⟩) hv).trans ?_,k⟩
 simp only [zea,zfp,href,ho]
 rw [if_pos ⟨hi,hl,hl2,hsz,hall,hone,hni⟩,if_pos ⟨hll,trivial⟩]
 rfl
end
@[go_sem] theorem z8z (st:St) (vs:List AV):deps st FUEL (.tup vs)=vs.flatMap (deps st 5):=rfl
theorem zgz {P:Program} {N:Nat} {Q:Exit->St->Prop} {b:GC} {ks:List Kt} {st:St}
  (h:∀ R:Exit->St->Prop,(∀ s,vL P N Q b ks s->R .normal s)->(∀ s,Q .ret s->R .ret s)->(∀ id s,zd0 P N Q (zbh id ks) id s->R (.exit id) s)->vm P N R [.code b] st):vL P N Q b ks st:=by
 obtain ⟨ex,s,r1,r2⟩:=zcv (P:=P) (N:=N) _ (Nat.le_refl _) (h (fun ex s=>(ex=.normal->vL P N Q b ks s)/\(ex ≠ .normal->semX P N Q ks ex s)) (fun s h=>⟨fun _=>h,fun h=>absurd rfl h⟩)
  (fun s h=>⟨fun h=>(by cases h),fun _=>zdu h⟩) (fun id s h=>⟨fun h=>(by cases h),fun _=>zn7 (by simp) h (.inr ⟨id,rfl⟩)⟩))
 by_cases he:ex=.normal
 ·subst he
  obtain ⟨ex,s2,q1,q2⟩:=r2.1 rfl
  exact ⟨ex,s2,.next _ _ _ _ r1 q1,q2⟩
 ·exact ⟨ex,s,.out _ _ _ r1 he,r2.2 he⟩
section
variable {α : Type} [Enc α]
theorem cells_one (h:∀ x : α,(enc x).cells.all PV.one=true) (l:List α):((ens l).flatMap PV.cells).all PV.one=true:=by
 simp only [List.all_eq_true,List.mem_flatMap]
 rintro c ⟨v,hv,hc⟩
 obtain ⟨x,_,rfl⟩:=List.mem_map.1 hv
 exact List.all_eq_true.1 (h x) c hc
theorem z5x (l:List α) (k:Nat):(avs l)[k]?=(l[k]?).map fun x=>.p (enc x):=by simp [avs,ens,List.getElem?_map,Option.map_map,Function.comp_def]
theorem zgk (l:List α) (n:Nat) (h:Enc.sz α = n):(ens l).all (fun v=>v.sz == n)=true:=by
 simp only [List.all_eq_true,beq_iff_eq]; intro v hv; rw [zwb l v hv,h]
end
end Go.Ab
namespace Go.Ab
open Enc (enc)
section
variable {P:Program} {N:Nat} {st st1:St}
theorem Weak.openRef {t n:Nat} {v:PV} (h:st.get t=.p (.ref v)) (hn:v.sz=n):Weak st ⟨(t,.cp v n 0)::st.sl,st.hp⟩:=by
 intro K Z w a hs
 have hobj:∀ s g,(⟨(t,.cp v n 0)::st.sl,st.hp⟩:St).obj s g=st.obj s g:=fun _ _=>rfl
 have hz:ZLe Z st Z ⟨(t,.cp v n 0)::st.sl,st.hp⟩:=⟨fun _ _ h=>h,fun _=>Nat.le_refl _,fun _ _ _ h=>h,fun _ _ o h=>.inr ⟨o,h,rfl,rfl,rfl,rfl⟩⟩
 refine ⟨Z,⟨fun t'=>?_,hs.defers,hs.size,⟨fun s g o ho=>(hs.heap.objs s g o ho).later hz rfl rfl (fun _ _=>rfl),hs.heap.inj,hs.heap.mem,hs.heap.sep,hs.heap.own,hs.heap.m0,hs.heap.prov,hs.heap.keep⟩⟩,PinLe.of_zle hz⟩
 by_cases ht:t'=t
 ·subst ht
  have hr:=hs.slots t'
  rw [h] at hr
  have hg:(⟨(t',.cp v n 0)::st.sl,st.hp⟩:St).get t'=.cp v n 0:=by simp [St.get,look]
  rw [hg]
  generalize a.tmps.getD t' Go.undef=x at hr
  cases hr.inv_p with
  | ref _ b o cur T fr vals h0 h1 h2 h3 h4=>exact .cp v n 0 b o cur T fr vals h0 (by omega) hn h2 (AReps.to_p (Z:=Z) (st:=st) (AReps.of_p h3)) h4
 ·have hg:(⟨(t,.cp v n 0)::st.sl,st.hp⟩:St).get t'=st.get t':=by simp [St.get,look,Ne.symm ht]
  rw [hg]
  exact (hs.slots t').mono hz
theorem Sp.of_vmW {f:FuncId} {args:List PV} {res:RV} {n np:Nat} {b:GC} {rs:List (Nat × Option Nat)} (hc:zac P f=some ⟨n,np,b.er,rs⟩) (hn:args.length<=n) (hw:Weak (zel args) st1) (h:vm P n (retP rs res) [.code b] st1):Sp P f args res:=by
 obtain ⟨ex,s,r1,r2⟩:=zcv _ (Nat.le_refl _) h
 have key:(ex=.ret\/ex=.normal)/\∃ vs,zbc s rs=some vs/\resP s (resOf vs) res:=by
  change retP rs res ex s at r2
  cases ex with
  | ret=>exact ⟨.inl rfl,r2⟩
  | normal=>exact ⟨.inr rfl,r2⟩
  | _=>exact r2.elim
 obtain ⟨k1,vs,r3,r4⟩:=key
 refine Sp.of_runs hc hn (Runs.weakL hw r1) k1 r3 ?_
 unfold resP at r4
 split at r4
 ·exact .pure _ _ r4
 ·split at r4
  ·rename_i sz es s' g off len hv
   obtain ⟨o,h1,rfl,h2,rfl,h4⟩:=r4
   rw [hv]
   exact .fresh _ _ _ _ _ h1 h2 h4
  ·rename_i hv; rw [hv,r4]; exact .nil _
  ·exact r4.elim
 ·exact r4.elim
end
end Go.Ab
namespace Go.Ab
open Enc (enc)
mutual
def PV.nomp:PV->Bool
 | .sl es=>zdz es
 | .agg cs=>zdz cs
 | .fn _ cs=>zdz cs
 | .ref v=>v.nomp
 | .tup vs=>zdz vs
 | .mp _ _ _=>false
 | _=>true
def zdz:List PV->Bool
 | []=>true
 | v::r=>v.nomp&&zdz r
end
theorem zez:∀ {l:List PV},zdz l=true ↔ ∀ v∈l,v.nomp=true
 | []=>by simp [zdz]
 | v::l=>by simp [zdz,zez (l:=l)]
theorem zik {v:PV} (h:v.nomp=true):zdz v.cells=true:=by
 cases v<;>simp_all [PV.cells,zdz,PV.nomp]
theorem zra {es:List PV} (h:zdz es=true):zdz (es.flatMap PV.cells)=true:=by
 rw [zez] at h ⊢
 intro c hc
 obtain ⟨e,he,hc⟩:=List.mem_flatMap.1 hc
 exact zez.1 (zik (h e he)) c hc
mutual
theorem PRep.nomp {M M':Nat->Option Obj} (hM:∀ b cur T fr,M b=some (.cells cur T fr)->M' b=some (.cells cur T fr)):∀ {v:PV} {x:Value},PRep M v x->v.nomp=true->PRep M' v x
 | _,_,.bool _,_=>.bool _
 | _,_,.int _ _,_=>.int _ _
 | _,_,.str _,_=>.str _
 | _,_,.nilfn,_=>.nilfn
 | _,_,.any _ h,_=>.any _ h
 | _,_,.nl _,_=>.nl _
 | _,_,.sle _ _,_=>.sle _ _
 | _,_,.mapv _,_=>.mapv _
 | _,_,.itv _,_=>.itv _
 | _,_,.mp _ _ _ _ _ _ _ _ _ _ _,hn=>by simp [PV.nomp] at hn
 | _,_,.sl0 _ _,_=>.sl0 _ _
 | _,_,.sl es b o cap cur T fr sz vals h0 h1 h2 h3 h4 h5 h6 h7,hn=>.sl es b o cap cur T fr sz vals (hM _ _ _ _ h0) h1 h2 h3 (PReps.nomp hM h4 (zra (by simpa [PV.nomp] using hn))) h5 h6 h7
 | _,_,.agg cs vals h1 h,hn=>.agg cs vals h1 (PReps.nomp hM h (by simpa [PV.nomp] using hn))
 | _,_,.fn f caps vals h,hn=>.fn f caps vals (PReps.nomp hM h (by simpa [PV.nomp] using hn))
 | _,_,.ref v b o cur T fr vals h0 h1 h2 h3 h4,hn=>.ref v b o cur T fr vals (hM _ _ _ _ h0) h1 h2 (PReps.nomp hM h3 (zik (by simpa [PV.nomp] using hn))) h4
 | _,_,.tup vs vals h,hn=>.tup vs vals (PReps.nomp hM h (by simpa [PV.nomp] using hn))
theorem PReps.nomp {M M':Nat->Option Obj} (hM:∀ b cur T fr,M b=some (.cells cur T fr)->M' b=some (.cells cur T fr)):∀ {v:List PV} {x:List Value},PReps M v x->zdz v=true->PReps M' v x
 | _,_,.nil,_=>.nil
 | _,_,.cons v x vs xs h hs,hn=>.cons _ _ _ _ (PRep.nomp hM h (by simp only [zdz,Bool.and_eq_true] at hn; exact hn.1)) (PReps.nomp hM hs (by simp only [zdz,Bool.and_eq_true] at hn; exact hn.2))
end
end Go.Ab
