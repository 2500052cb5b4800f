/-
Proofs for the law CountIsFinite, part 14. Conditions: none.
-/
import Derived.Test.YtdkocfjbmbenfaaGreatDoorDP12
import Derived.Test.YtdkocfjbmbenfaaGreatDoorDP13
import Derived.ChangeBook
import Derived.ChangeStays
import Derived.ChangeSame
import Derived.ChangeArms
import Derived.OpenShut
import Derived.Test.YtdkocfjbmbenfaaGreatDoorDP10
set_option maxRecDepth 100000
set_option maxHeartbeats 4000000
set_option linter.all false
namespace Go.Ab
open Enc (enc)
section
variable {H:Type} {en:TypeId × Value->H} {P:Program} {w:World} {n:Nat} {t e:TypeId} {D D':List PV->Prop} {α : Type} [Enc α]
def RdN (en:TypeId × Value->H) (P:Program) (w:World) (n:Nat) (t:TypeId) (D:List PV->Prop):Prop :=
 ∀ m,m<=n->∀ cs x,DataW.trod en P w 0 (fun _=>true) true m t cs=some x->∃ l,D l/\PReps (fun b=>w.heap[b]?) l cs
def IsC (α : Type) [Enc α] (l:List PV):Prop:=∃ x : α,l=(enc x).cells
theorem z34 (ht:P.underlying t=some .bool):RdN en P w n t (IsC Bool):=fun m _ cs x h=>by
 obtain ⟨b,rfl,_⟩:=DataW.trod_bool ht h
 exact ⟨_,⟨b,rfl⟩,.cons _ _ _ _ (.bool b) .nil⟩
theorem z7k (ht:P.underlying t=some (.int .i64)):RdN en P w n t (IsC Int):=fun m _ cs x h=>by
 obtain ⟨b,rfl,_⟩:=DataW.trod_int ht h
 exact ⟨_,⟨b,rfl⟩,.cons _ _ _ _ (.int .i64 b) .nil⟩
theorem z0u (hone:∀ x : α,(enc x).cells.all PV.one=true) (hlen:∀ x : α,(enc x).cells.length=Enc.sz α) (ht:P.underlying t=some (.slice e)) (hc:P.cellsOf e=Enc.sz α)
  (he:∀ k,k<n->RdN en P w k e (IsC α)):RdN en P w n t (IsC (List α)):=by
 intro m hm cs x h
 rcases DataW.trod_slice ht h with ⟨rfl,_⟩|⟨a,len,cap,elems,rest,k,rfl,rfl,_,_,h1,h2,h3,h4,_,_⟩
 ·exact ⟨_,⟨[],rfl⟩,.cons _ _ _ _ (.sl0 none 0) .nil⟩
 have hel:∀ i,i<len->∃ (y : α) (c:List Value),w.cells? 0 (a.add (i*Enc.sz α)) (Enc.sz α)=some c/\PReps (fun b=>w.heap[b]?) (enc y).cells c:=by
  intro i hi
  have h5:=h4 i hi
  rw [List.getElem?_eq_getElem (by omega),Option.bind_eq_some_iff] at h5
  obtain ⟨c,hc1,hc2⟩:=h5
  obtain ⟨l,⟨y,rfl⟩,hr⟩:=he k (by omega) k (Nat.le_refl k) c _ hc2
  exact ⟨y,c,by rw [<- hc]; exact hc1,hr⟩
 rcases Nat.eq_zero_or_pos len with rfl|hpos
 ·exact ⟨_,⟨[],rfl⟩,.cons _ _ _ _ (.sl0 (some a) cap) .nil⟩
 have hz:=Enc.pos (α := α)
 obtain ⟨cur,T,fr,hb,hs⟩:∃ cur T fr,w.heap[a.block]?=some (.cells cur T fr)/\a.spot=none:=by
  obtain ⟨y0,c0,e0,_⟩:=hel 0 hpos
  obtain ⟨_,l0,g0⟩:=World.cells?_some e0
  have hc0:=g0 0 hz
  rw [List.getElem?_eq_getElem (by omega)] at hc0
  simp only [World.cell?,Addr.add,Nat.zero_mul,if_true] at hc0
  split at hc0
  ·rename_i cur T fr hb
   split at hc0
   ·cases hc0
   ·rename_i hsp
    exact ⟨cur,T,fr,hb,by simpa using hsp⟩
  ·cases hc0
 have hadd:∀ i,a.add i=⟨a.block,a.off+i,none⟩:=fun i=>by
  obtain ⟨ab,ao,asp⟩:=a
  simp only at hs
  subst hs
  by_cases hi:i=0<;>simp [Addr.add,hi]
 have hcell:∀ i,w.cell? (a.add i)=cur[a.off+i]?:=fun i=>by simp [World.cell?,hadd,hb]
 have main:∀ k,k<=len->∃ (ys:List α) (vals:List Value),ys.length=k/\PReps (fun b=>w.heap[b]?) ((ens ys).flatMap PV.cells) vals/\vals.length=k*Enc.sz α /\ ∀ i v,vals[i]?=some v->cur[a.off+i]?=some v:=by
  intro k
  induction k with
  | zero=>intro _; exact ⟨[],[],rfl,.nil,by simp,fun i v hv=>by simp at hv⟩
  | succ k ih =>
   intro hk
   obtain ⟨ys,vals,i1,i2,i3,i4⟩:=ih (by omega)
   obtain ⟨y,c,e1,e2⟩:=hel k (by omega)
   obtain ⟨_,l1,g1⟩:=World.cells?_some e1
   refine ⟨ys++[y],vals++c,by simp [i1],?_,by rw [List.length_append,i3,l1,Nat.add_mul,Nat.one_mul],fun i v hv=>?_⟩
   ·have:(ens (ys++[y])).flatMap PV.cells=(ens ys).flatMap PV.cells++(enc y).cells:=by simp [ens]
    rw [this]; exact i2.append e2
   ·rcases Nat.lt_or_ge i vals.length with hi|hi
    ·rw [List.getElem?_append_left hi] at hv
     exact i4 i v hv
    ·rw [List.getElem?_append_right hi,i3] at hv
     have hj:i - k*Enc.sz α < c.length:=by
      rcases Nat.lt_or_ge (i - k*Enc.sz α) c.length with h|h
      ·exact h
      ·rw [List.getElem?_eq_none h] at hv; cases hv
     have h6:=g1 (i - k*Enc.sz α) (by omega)
     rw [hv] at h6
     have h7:(a.add (k*Enc.sz α)).add (i - k*Enc.sz α)=a.add i:=by
      rw [hadd,hadd]
      have h8:k*Enc.sz α + (i - k*Enc.sz α)=i:=by omega
      by_cases hi0:i - k*Enc.sz α = 0
      ·simp [Addr.add,hi0]; omega
      ·simp [Addr.add,hi0]; omega
     rw [h7,hcell] at h6
     exact h6
 obtain ⟨ys,vals,i1,i2,i3,i4⟩:=main len (Nat.le_refl _)
 subst i1
 refine ⟨_,⟨ys,rfl⟩,.cons _ _ _ _ ?_ .nil⟩
 obtain ⟨ab,ao,asp⟩:=a
 simp only at hs hb i4
 subst hs
 have:=PRep.sl (M:=fun b=>w.heap[b]?) (ens ys) ab ao cap cur T fr (Enc.sz α) vals hb hz (fun v hv=>by obtain ⟨y,_,rfl⟩:=List.mem_map.1 hv; exact Enc.ok y) (fun c hc=>by
  obtain ⟨v,hv,hc⟩:=List.mem_flatMap.1 hc
  obtain ⟨y,_,rfl⟩:=List.mem_map.1 hv
  exact List.all_eq_true.1 (hone y) c hc) i2 i4 (by simpa [ens] using h1) (by simpa [ens] using Nat.le_trans h1 h2)
 rw [show (ens ys).length=ys.length by simp [ens]] at this
 exact this
def shp (P:Program) (t:TypeId):Option (List (TypeId × Nat × Nat) × Nat) :=
 match P.underlying t with
 | some (.struct fs)=>some (fs.toList.map fun f=>(f.type,f.offset,P.cellsOf f.type),P.cellsOf t)
 | _=>none
def zqg:Nat->List (TypeId × Nat × Nat)->Option Nat
 | o,[]=>some o
 | o,(_,f,c)::r=>if f=o then zqg (o+c) r else none
def RdF (en:TypeId × Value->H) (P:Program) (w:World) (n:Nat):List (TypeId × Nat × Nat)->List (List PV->Prop)->Prop
 | [],[]=>True
 | f::fs,D::Ds=>RdN en P w n f.1 D/\RdF en P w n fs Ds
 | _,_=>False
def AllD:List (List PV->Prop)->List (List PV)->Prop
 | [],[]=>True
 | D::Ds,l::ls=>D l/\AllD Ds ls
 | _,_=>False
theorem AllD.cons {Ds:List (List PV->Prop)} {ls:List (List PV)} (h:AllD (D::Ds) ls):∃ l ls',ls=l::ls'/\D l/\AllD Ds ls':=by
 cases ls with
 | nil=>exact h.elim
 | cons l ls=>exact ⟨l,ls,rfl,h.1,h.2⟩
theorem AllD.nil {ls:List (List PV)} (h:AllD [] ls):ls=[]:=by
 cases ls with
 | nil=>rfl
 | cons l ls=>exact h.elim
theorem zpg {cs:List Value} {k:Nat}:∀ (ts:List (TypeId × Nat × Nat)) (Ds:List (List PV->Prop)) (o:Nat),zqg o ts=some k->RdF en P w n ts Ds ->
  (∀ f∈ts,∃ y,DataW.trod en P w 0 (fun _=>true) true n f.1 ((cs.drop f.2.1).take f.2.2)=some y)->∃ ls,AllD Ds ls/\PReps (fun b=>w.heap[b]?) ls.flatten ((cs.drop o).take (k - o))/\o<=k
 | [],[],o,hk,_,_=>by
  simp only [zqg,Option.some.injEq] at hk
  subst hk
  exact ⟨[],trivial,by simpa using PReps.nil,Nat.le_refl _⟩
 | [],D::Ds,o,_,h,_=>h.elim
 | f::fs,[],o,_,h,_=>h.elim
 | (t,f,c)::fs,D::Ds,o,hk,h,hy=>by
  simp only [zqg] at hk
  split at hk
  ·rename_i hf
   subst hf
   obtain ⟨y,hy1⟩:=hy (t,f,c) (by simp)
   obtain ⟨l,hl1,hl2⟩:=h.1 n (Nat.le_refl _) _ _ hy1
   obtain ⟨ls,g1,g2,g3⟩:=zpg fs Ds (f+c) hk h.2 fun x hx=>hy x (List.mem_cons_of_mem _ hx)
   refine ⟨l::ls,⟨hl1,g1⟩,?_,by omega⟩
   have e1:k - f=c+(k - (f+c)):=by omega
   rw [e1,List.take_add,List.drop_drop,List.flatten_cons]
   exact hl2.append g2
  ·cases hk
theorem zw2 {ts:List (TypeId × Nat × Nat)} {k:Nat} {Ds:List (List PV->Prop)} (ht:shp P t=some (ts,k)) (hc:zqg 0 ts=some k) (hd:∀ m,m<n->RdF en P w m ts Ds) (hD:∀ ls,AllD Ds ls->D ls.flatten):RdN en P w n t D:=by
 intro m hm cs x h
 unfold shp at ht
 split at ht
 ·rename_i fs hu
  simp only [Option.some.injEq,Prod.mk.injEq] at ht
  obtain ⟨rfl,rfl⟩:=ht
  obtain ⟨xs,i,rfl,_,h1,h2,h3⟩:=DataW.trod_struct hu h
  obtain ⟨ls,g1,g2,_⟩:=zpg (cs:=cs) _ Ds 0 hc (hd i (by omega)) fun f hf=>by
   obtain ⟨f',hf',rfl⟩:=List.mem_map.1 hf
   obtain ⟨j,hj,rfl⟩:=List.mem_iff_getElem.1 hf'
   have h4:=h3 j fs[j] (by simp)
   have hj':j<xs.length:=by rw [h2]; simpa using hj
   rw [List.getElem?_eq_getElem hj'] at h4
   exact ⟨_,by simpa using h4⟩
  refine ⟨_,hD ls g1,?_⟩
  rw [List.drop_zero,Nat.sub_zero,<- h1,List.take_length] at g2
  exact g2
 ·cases ht
theorem prep_agg {M:Nat->Option Obj} {cs:List PV} {c:Array Value} (h1:∀ x∈cs,x.one=true) (h:PReps M cs c.toList):PRep M (.agg cs) (.agg c):=by
 have:=PRep.agg cs c.toList h1 h
 rwa [Array.toArray_toList] at this
theorem zyc {W W':World} (hk:Keep W W' fun _=>False) {p:MemPlace} (hp:p.block<W.heap.size):W.sameAt W' p:=by
 have h:=hk.blk p.block hp fun h=>h
 cases p with
 | cell b off =>
  show W'.cell? ⟨b,off,none⟩=W.cell? ⟨b,off,none⟩
  simp only [MemPlace.block] at h
  simp only [World.cell?,h]
 | map b=>exact h
theorem zyp {W:World} {p:MemPlace} (h:Go.Good W p):p.block<W.heap.size:=by
 cases p with
 | cell b off =>
  obtain ⟨v,hv,_⟩:=h
  simp only [World.cell?] at hv
  split at hv
  ·rename_i cur T fr hb
   exact (Array.getElem?_eq_some_iff.1 hb).1
  ·cases hv
 | map b =>
  obtain ⟨es,clock,hb⟩:=h
  exact (Array.getElem?_eq_some_iff.1 hb).1
theorem keep_trod {W W':World} (hk:Keep W W' fun _=>False) {T:TypeId->Prop} (K:Kids P T) (hsz:∀ {t e:TypeId},T t->P.underlying t=some (.slice e)->0<P.cellsOf e) (hT:T t) {m:Nat} {cs:List Value} {x:DataW H × List MemPlace}
  (h:DataW.trod en P W 0 (fun _=>true) true m t cs=some x):DataW.trod en P W' 0 (fun b=>decide (b<W.heap.size)) true m t cs=some x:=by
 have hg:=DataW.trod_good K (fun h=>by cases h) m t cs x hT h
 exact DataW.trod_stays K hsz (fun h=>by cases h) hT h (fun p hp=>zyc hk (zyp (hg p hp))) fun p hp=>by simpa using zyp (hg p hp)
theorem keep_kept {W W':World} (hk:Keep W W' fun _=>False) (may:MemPlace->Prop):W.keptBut W' may:=by
 refine ⟨hk.os,hk.output,fun i hi=>?_⟩
 rw [hk.blk i hi fun h=>h]
 cases W.heap[i]? with
 | none=>rfl
 | some o =>
  cases o with
  | cells c t fr=>exact ⟨rfl,rfl,rfl,fun _ _=>rfl⟩
  | map es clock=>exact .inr ⟨rfl,rfl⟩
  | _=>rfl
end
end Go.Ab
namespace Go.Ab
abbrev zm (d s:Nat):Ins:=⟨some d,.mv (.t s),none⟩
abbrev zf (d k s:Nat):Ins:=⟨some d,.faddr k (.t s),none⟩
abbrev zt (d n s:Nat):Ins:=⟨some d,.load n true (.t s),none⟩
abbrev zl (d n s:Nat):Ins:=⟨some d,.load n false (.t s),none⟩
abbrev zb (d:Nat) (o:BinOp) (a b:Nat):Ins:=⟨some d,.ibin o (.t a) (.t b),none⟩
abbrev zc (d:Nat) (f:FuncId) (xs:List Opd):Ins:=⟨some d,.call f xs,none⟩
abbrev zs (n a b:Nat):Ins:=⟨none,.store n (.t a) (.t b),none⟩
abbrev zn (d s:Nat):Ins:=⟨some d,.len (.t s),none⟩
abbrev zi (d n a b:Nat):Ins:=⟨some d,.iaddr n (.t a) (.t b),none⟩
abbrev zg (d s g:Nat) (b:Bool):Ins:=⟨some d,.mv (.t s),some (g,b)⟩
abbrev zh (d k s g:Nat) (b:Bool):Ins:=⟨some d,.faddr k (.t s),some (g,b)⟩
abbrev zk (d n:Nat) (x:Bool) (s g:Nat) (b:Bool):Ins:=⟨some d,.load n x (.t s),some (g,b)⟩
abbrev zo (d:Nat) (o:IOp):Ins:=⟨some d,o,none⟩
@[go_sem] abbrev ci (n:Int):Opd:=.c (.p (.int .i64 n))
@[go_sem] abbrev cb (n:Bool):Opd:=.c (.p (.bool n))
abbrev zq (d:Nat) (o:IOp) (g:Nat) (b:Bool):Ins:=⟨some d,o,some (g,b)⟩
abbrev zj (d:Nat) (o:BinOp) (a:Nat) (n:Int):Ins:=⟨some d,.ibin o (.t a) (.c (.p (.int .i64 n))),none⟩
abbrev zx (d a n:Nat):Ins:=⟨some d,.extract (.t a) n,none⟩
abbrev zp (d a b:Nat):Ins:=⟨some d,.pick (.t a) (.t b) (.c (.p (.bool false))),none⟩
abbrev zy (d:Nat) (n:Int):Ins:=⟨some d,.mv (.c (.p (.int .i64 n))),none⟩
@[go_sem] abbrev zTA:List AV:=[.p (.int .i64 0),.p (.int .i64 0),.p (.int .i64 0),.p (.int .i64 0),.p (.bool false),.nil,.nil,.p (.int .i64 0),.p (.bool false),.p (.int .u64 0),.nil,.nil]
@[go_sem] abbrev zAA:List AV:=[.p (.int .i64 0),.p (.int .i64 0),.p (.int .i64 0),.p (.bool false),.nil,.nil,.p (.int .i64 0),.p (.bool false),.p (.int .u64 0),.nil,.nil]
@[go_sem] abbrev zW:List AV:=[.p (.bool false),.nil,.nil,.p (.int .i64 0),.p (.bool false),.p (.int .u64 0),.nil,.nil]
@[go_sem] abbrev zT:List AV:=[.p (.int .i64 0),.nil,.p (.int .i64 0),.p (.int .i64 0),.p (.int .i64 0),.nil,.nil,.nil]
@[go_sem] abbrev zA:List AV:=[.p (.int .i64 0),.nil,.p (.int .i64 0),.p (.int .i64 0),.nil,.nil,.nil]
@[go_sem] abbrev zM:List AV:=[.p (.int .i64 0),.p (.int .i64 0),.p (.int .i64 0),.p (.bool false),.nil,.nil]
@[go_sem] abbrev zQ:List AV:=[.p (.bool false),.nil,.nil]
end Go.Ab
namespace Go.Ab
structure DC where
 fs:List FuncId:=[]
 zs:List AV:=[]
 xs:List Ins:=[]
 gs:List GC:=[]
structure DS where
 ns:List Nat
 d:Nat
 g:Option (Nat × Bool)
 l:List Nat
 is:List Ins
 ll:List (List Nat)
 pp:List (List Nat)
 st:List GC
def nth {α : Type} (d : α):List α -> Nat -> α
 | [],_=>d
 | x::_,0=>x
 | _::l,n+1=>nth d l n
@[go_sem] theorem ycw {α : Type} (d x : α) (l:List α):nth d (x::l) 0=x:=rfl
@[go_sem] theorem ycv {α : Type} (d : α) (n:Nat):nth d [] n=d:=rfl
@[go_sem] theorem ycu {α : Type} (d x : α) (l:List α) (n:Nat):nth d (x::l) (n+1)=nth d l n:=rfl
@[go_sem] def bops:List BinOp:=[.add,.sub,.mul,.quo,.rem,.and,.or,.xor,.andNot,.shl,.shr,.eql,.neq,.lss,.leq,.gtr,.geq]
@[go_sem] def iks:List IntKind:=[.u8,.u16,.u32,.u64,.i8,.i16,.i32,.i64]
@[go_sem] def aggL:AV->List AV
 | .agg cs=>cs
 | .p (.agg cs)=>cs.map .p
 | _=>[]
@[go_sem] def zzq:List Nat->List (Nat × Nat × Opd)
 | o::s::a::r=>(o,s,.t a)::zzq r
 | _=>[]
def up:Nat->Nat->List Nat->List Nat
 | 0,a,r=>a::r
 | k+1,a,r=>up k (a+1) (a::r)
def dn:Nat->Nat->List Nat->List Nat
 | 0,a,r=>a::r
 | k+1,a,r=>dn k (a - 1) (a::r)
@[go_sem] theorem up_0 (a:Nat) (r:List Nat):up 0 a r=a::r:=rfl
@[go_sem] theorem up_s (k a:Nat) (r:List Nat):up (k+1) a r=up k (a+1) (a::r):=rfl
@[go_sem] theorem dn_0 (a:Nat) (r:List Nat):dn 0 a r=a::r:=rfl
@[go_sem] theorem dn_s (k a:Nat) (r:List Nat):dn (k+1) a r=dn k (a - 1) (a::r):=rfl
def qHI (C:DC):DS->DS
 | ⟨b::a::ns,d,g,l,is,ll,pp,st⟩=>⟨(64*a+b)::ns,d,g,l,is,ll,pp,st⟩
 | s=>s
def ya5 (C:DC):DS->DS
 | ⟨[a],d,g,l,is,ll,pp,st⟩=>⟨[],a,g,l,is,ll,pp,st⟩
 | s=>s
def qG1 (C:DC):DS->DS
 | ⟨[a],d,g,l,is,ll,pp,st⟩=>⟨[],d,some (a,true),l,is,ll,pp,st⟩
 | s=>s
def qG0 (C:DC):DS->DS
 | ⟨[a],d,g,l,is,ll,pp,st⟩=>⟨[],d,some (a,false),l,is,ll,pp,st⟩
 | s=>s
def qLST (C:DC):DS->DS
 | ⟨ns,d,g,l,is,ll,pp,st⟩=>⟨[],d,g,ns,is,ll,pp,st⟩
def qPLS (C:DC):DS->DS
 | ⟨ns,d,g,l,is,ll,pp,st⟩=>⟨[],d,g,l,is,ll,ns::pp,st⟩
def qREG (C:DC):DS->DS
 | ⟨[],d,g,l,is,ll,pp,st⟩=>⟨[],d,g,l,[],[],pp,.reg is ll::st⟩
 | s=>s
def ya6 (C:DC):DS->DS
 | ⟨[],d,g,l,is,ll,pp,st⟩=>⟨[],d,g,l,[],[],[],.regD is pp ll::st⟩
 | s=>s
def qSEQ (C:DC):DS->DS
 | ⟨[],d,g,l,is,ll,pp,x::y::st⟩=>⟨[],d,g,l,is,ll,pp,.seq x y::st⟩
 | s=>s
def yba (C:DC):DS->DS
 | ⟨a::ns,d,g,l,is,ll,pp,x::y::st⟩=>⟨[],d,g,l,is,ll,pp,.cond (.t a) ns x y::st⟩
 | s=>s
def qBLK (C:DC):DS->DS
 | ⟨[a],d,g,l,is,ll,pp,x::st⟩=>⟨[],d,g,l,is,ll,pp,.blk a x::st⟩
 | s=>s
def ya7 (C:DC):DS->DS
 | ⟨[a],d,g,l,is,ll,pp,st⟩=>⟨[],d,g,l,is,ll,pp,.loop (nth .bad C.gs a)::st⟩
 | s=>s
def qRET (C:DC):DS->DS
 | ⟨[],d,g,l,is,ll,pp,st⟩=>⟨[],d,g,l,is,ll,pp,.ret::st⟩
 | s=>s
def qNOP (C:DC):DS->DS
 | ⟨[],d,g,l,is,ll,pp,st⟩=>⟨[],d,g,l,is,ll,pp,.nop::st⟩
 | s=>s
def qEXT (C:DC):DS->DS
 | ⟨[a],d,g,l,is,ll,pp,st⟩=>⟨[],d,g,l,is,ll,pp,.ext a::st⟩
 | s=>s
def qX (C:DC):DS->DS
 | ⟨[a],d,g,l,is,ll,pp,st⟩=>⟨[],d,none,[],nth ⟨none,.bad,none⟩ C.xs a::is,l::ll,pp,st⟩
 | s=>s
def qXD (C:DC):DS->DS
 | ⟨[a],d,g,l,is,ll,pp,st⟩=>⟨[],(d-1),none,[],nth ⟨none,.bad,none⟩ C.xs a::is,l::ll,pp,st⟩
 | s=>s
def qMV (C:DC):DS->DS
 | ⟨[a],d,g,l,is,ll,pp,st⟩=>⟨[],(d-1),none,[],⟨some d,.mv (.t a),g⟩::is,l::ll,pp,st⟩
 | s=>s
def qFA (C:DC):DS->DS
 | ⟨[a,k],d,g,l,is,ll,pp,st⟩=>⟨[],(d-1),none,[],⟨some d,.faddr k (.t a),g⟩::is,l::ll,pp,st⟩
 | s=>s
def qLT (C:DC):DS->DS
 | ⟨[a,k],d,g,l,is,ll,pp,st⟩=>⟨[],(d-1),none,[],⟨some d,.load k true (.t a),g⟩::is,l::ll,pp,st⟩
 | s=>s
def qLF (C:DC):DS->DS
 | ⟨[a,k],d,g,l,is,ll,pp,st⟩=>⟨[],(d-1),none,[],⟨some d,.load k false (.t a),g⟩::is,l::ll,pp,st⟩
 | s=>s
def qIBC (C:DC):DS->DS
 | ⟨[c,a,k],d,g,l,is,ll,pp,st⟩=>⟨[],(d-1),none,[],⟨some d,.ibin (nth .add bops k) (.t a) (.c (.p (.int .i64 c))),g⟩::is,l::ll,pp,st⟩
 | s=>s
def qST (C:DC):DS->DS
 | ⟨[b,a,k],d,g,l,is,ll,pp,st⟩=>⟨[],d,none,[],⟨none,.store k (.t a) (.t b),g⟩::is,l::ll,pp,st⟩
 | s=>s
def qIB (C:DC):DS->DS
 | ⟨[b,a,k],d,g,l,is,ll,pp,st⟩=>⟨[],(d-1),none,[],⟨some d,.ibin (nth .add bops k) (.t a) (.t b),g⟩::is,l::ll,pp,st⟩
 | s=>s
def qIA (C:DC):DS->DS
 | ⟨[b,a,k],d,g,l,is,ll,pp,st⟩=>⟨[],(d-1),none,[],⟨some d,.iaddr k (.t a) (.t b),g⟩::is,l::ll,pp,st⟩
 | s=>s
def qMVC (C:DC):DS->DS
 | ⟨[c],d,g,l,is,ll,pp,st⟩=>⟨[],(d-1),none,[],⟨some d,.mv (.c (.p (.int .i64 c))),g⟩::is,l::ll,pp,st⟩
 | s=>s
def qBOX (C:DC):DS->DS
 | ⟨[a,k],d,g,l,is,ll,pp,st⟩=>⟨[],(d-1),none,[],⟨some d,.box k (.t a),g⟩::is,l::ll,pp,st⟩
 | s=>s
def qLEN (C:DC):DS->DS
 | ⟨[a],d,g,l,is,ll,pp,st⟩=>⟨[],(d-1),none,[],⟨some d,.len (.t a),g⟩::is,l::ll,pp,st⟩
 | s=>s
def qMVB (C:DC):DS->DS
 | ⟨[c],d,g,l,is,ll,pp,st⟩=>⟨[],(d-1),none,[],⟨some d,.mv (.c (.p (.bool (nth true [false] c)))),g⟩::is,l::ll,pp,st⟩
 | s=>s
def ybb (C:DC):DS->DS
 | ⟨k::as,d,g,l,is,ll,pp,st⟩=>⟨[],(d-1),none,[],⟨some d,.call (nth 0 C.fs k) (as.map .t),g⟩::is,l::ll,pp,st⟩
 | s=>s
def z7o (C:DC):DS->DS
 | ⟨[b,a],d,g,l,is,ll,pp,st⟩=>⟨[],(d-1),none,[],⟨some d,.pick (.t a) (.t b) (.c (.p (.bool false))),g⟩::is,l::ll,pp,st⟩
 | s=>s
def ya8 (C:DC):DS->DS
 | ⟨[k,a],d,g,l,is,ll,pp,st⟩=>⟨[],(d-1),none,[],⟨some d,.extract (.t a) k,g⟩::is,l::ll,pp,st⟩
 | s=>s
def z7n (C:DC):DS->DS
 | ⟨[b,a],d,g,l,is,ll,pp,st⟩=>⟨[],(d-1),none,[],⟨some d,.pick (.t a) (.c (.p (.bool true))) (.t b),g⟩::is,l::ll,pp,st⟩
 | s=>s
def qMVN (C:DC):DS->DS
 | ⟨[],d,g,l,is,ll,pp,st⟩=>⟨[],(d-1),none,[],⟨some d,.mv (.c .nil),g⟩::is,l::ll,pp,st⟩
 | s=>s
def qNOT (C:DC):DS->DS
 | ⟨[a],d,g,l,is,ll,pp,st⟩=>⟨[],(d-1),none,[],⟨some d,.not (.t a),g⟩::is,l::ll,pp,st⟩
 | s=>s
def z7r (C:DC):DS->DS
 | ⟨[z,k],d,g,l,is,ll,pp,st⟩=>⟨[],(d-1),none,[],⟨some d,.alloc k (nth .nil C.zs z),g⟩::is,l::ll,pp,st⟩
 | s=>s
def qAPP (C:DC):DS->DS
 | ⟨[b,a,k],d,g,l,is,ll,pp,st⟩=>⟨[],(d-1),none,[],⟨some d,.append k (.t a) (.t b),g⟩::is,l::ll,pp,st⟩
 | s=>s
def qBSL (C:DC):DS->DS
 | ⟨[a,z,k],d,g,l,is,ll,pp,st⟩=>⟨[],(d-1),none,[],⟨some d,.bslice k (nth .nil C.zs z) 1 [(0,.t a)],g⟩::is,l::ll,pp,st⟩
 | s=>s
def z7p (C:DC):DS->DS
 | ⟨k::as,d,g,l,is,ll,pp,st⟩=>⟨[],(d-1),none,[],⟨some d,.callv (.t k) (as.map .t),g⟩::is,l::ll,pp,st⟩
 | s=>s
def z7q (C:DC):DS->DS
 | ⟨z::as,d,g,l,is,ll,pp,st⟩=>⟨[],(d-1),none,[],⟨some d,.build (aggL (nth .nil C.zs z)) (zzq as),g⟩::is,l::ll,pp,st⟩
 | s=>s
def ya9 (C:DC):DS->DS
 | ⟨[a,k],d,g,l,is,ll,pp,st⟩=>⟨[],(d-1),none,[],⟨some d,.conv (nth .i64 iks k) (.t a),g⟩::is,l::ll,pp,st⟩
 | s=>s
def qIBU (C:DC):DS->DS
 | ⟨[c,a,k,z],d,g,l,is,ll,pp,st⟩=>⟨[],(d-1),none,[],⟨some d,.ibin (nth .add bops k) (.t a) (.c (.p (.int (nth .i64 iks z) c))),g⟩::is,l::ll,pp,st⟩
 | s=>s
def qIBR (C:DC):DS->DS
 | ⟨[a,c,k],d,g,l,is,ll,pp,st⟩=>⟨[],(d-1),none,[],⟨some d,.ibin (nth .add bops k) (.c (.p (.int .i64 c))) (.t a),g⟩::is,l::ll,pp,st⟩
 | s=>s
def qMVU (C:DC):DS->DS
 | ⟨[c,k],d,g,l,is,ll,pp,st⟩=>⟨[],(d-1),none,[],⟨some d,.mv (.c (.p (.int (nth .i64 iks k) c))),g⟩::is,l::ll,pp,st⟩
 | s=>s
def qUP (C:DC):DS->DS
 | ⟨k::a::ns,d,g,l,is,ll,pp,st⟩=>⟨up k a ns,d,g,l,is,ll,pp,st⟩
 | s=>s
def qDN (C:DC):DS->DS
 | ⟨k::a::ns,d,g,l,is,ll,pp,st⟩=>⟨dn k a ns,d,g,l,is,ll,pp,st⟩
 | s=>s
def qtab:List (DC->DS->DS):=[qHI,ya5,qG1,qG0,qLST,qPLS,qREG,ya6,qSEQ,yba,qBLK,ya7,qRET,qNOP,qEXT,qX,qXD,qMV,qFA,qLT,qLF,qIBC,qST,qIB,qIA,qMVC,qBOX,qLEN,qMVB,ybb,z7o,ya8,z7n,qMVN,qNOT,z7r,qAPP,qBSL,z7p,z7q,ya9,qIBU,qIBR,qMVU,qUP,qDN]
def z7l (t:Nat):DS->DS
 | ⟨ns,d,g,l,is,ll,pp,st⟩=>⟨t::ns,d,g,l,is,ll,pp,st⟩
def z8l (C:DC) (c v:Nat) (s:DS):DS :=
 match c with
 | 0=>z7l v s
 | 1=>z7l (s.d - v) s
 | 2=>nth (fun _ s=>s) qtab v C s
 | _=>match s with|⟨ns,d,g,l,is,ll,pp,st⟩=>⟨(d - v)::ns,d,g,(d - v)::l,is,ll,pp,st⟩
def drun (C:DC):Nat->Nat->DS->GC
 | 0,_,s=>s.st.headD .bad
 | f+1,n,s=>drun C f (n / 256) (z8l C (n / 64 % 4) (n % 64) s)
def dtok (C:DC) (c v f n:Nat) (s:DS):GC:=drun C f n (z8l C c v s)
def za9 (C:DC) (f n:Nat) (s:DS):GC:=drun C f n s
@[go_sem] def dc (C:DC) (f n:Nat):GC:=za9 C f n ⟨[],0,none,[],[],[],[],[]⟩
section
variable {C:DC} {ns as:List Nat} {a b c d k z v f n:Nat} {g:Option (Nat × Bool)} {is:List Ins} {ll pp:List (List Nat)} {l:List Nat} {st:List GC} {x y:GC} {s:DS}
@[go_sem] theorem ycr:za9 C (f+1) n s=dtok C (n / 64 % 4) (n % 64) f (n / 256) s:=rfl
@[go_sem] theorem ycs:dtok C 0 0 0 0 ⟨ns,d,g,l,is,ll,pp,x::st⟩=x:=rfl
@[go_sem] theorem yby:dtok C 0 v (f+1) n ⟨ns,d,g,l,is,ll,pp,st⟩=za9 C (f+1) n ⟨v::ns,d,g,l,is,ll,pp,st⟩:=rfl
@[go_sem] theorem ybx:dtok C 1 v (f+1) n ⟨ns,d,g,l,is,ll,pp,st⟩=za9 C (f+1) n ⟨(d - v)::ns,d,g,l,is,ll,pp,st⟩:=rfl
@[go_sem] theorem ybw:dtok C 3 v (f+1) n ⟨ns,d,g,l,is,ll,pp,st⟩=za9 C (f+1) n ⟨(d - v)::ns,d,g,(d - v)::l,is,ll,pp,st⟩:=rfl
@[go_sem] theorem yb7:dtok C 2 0 f n ⟨b::a::ns,d,g,l,is,ll,pp,st⟩=za9 C f n ⟨(64*a+b)::ns,d,g,l,is,ll,pp,st⟩:=rfl
@[go_sem] theorem z8m:dtok C 2 1 f n ⟨[a],d,g,l,is,ll,pp,st⟩=za9 C f n ⟨[],a,g,l,is,ll,pp,st⟩:=rfl
@[go_sem] theorem yb8:dtok C 2 2 f n ⟨[a],d,g,l,is,ll,pp,st⟩=za9 C f n ⟨[],d,some (a,true),l,is,ll,pp,st⟩:=rfl
@[go_sem] theorem yb9:dtok C 2 3 f n ⟨[a],d,g,l,is,ll,pp,st⟩=za9 C f n ⟨[],d,some (a,false),l,is,ll,pp,st⟩:=rfl
@[go_sem] theorem z97:dtok C 2 4 f n ⟨ns,d,g,l,is,ll,pp,st⟩=za9 C f n ⟨[],d,g,ns,is,ll,pp,st⟩:=rfl
@[go_sem] theorem z90:dtok C 2 5 f n ⟨ns,d,g,l,is,ll,pp,st⟩=za9 C f n ⟨[],d,g,l,is,ll,ns::pp,st⟩:=rfl
@[go_sem] theorem z9z:dtok C 2 6 f n ⟨[],d,g,l,is,ll,pp,st⟩=za9 C f n ⟨[],d,g,l,[],[],pp,.reg is ll::st⟩:=rfl
@[go_sem] theorem z8n:dtok C 2 7 f n ⟨[],d,g,l,is,ll,pp,st⟩=za9 C f n ⟨[],d,g,l,[],[],[],.regD is pp ll::st⟩:=rfl
@[go_sem] theorem z9x:dtok C 2 8 f n ⟨[],d,g,l,is,ll,pp,x::y::st⟩=za9 C f n ⟨[],d,g,l,is,ll,pp,.seq x y::st⟩:=rfl
@[go_sem] theorem z8r:dtok C 2 9 f n ⟨a::ns,d,g,l,is,ll,pp,x::y::st⟩=za9 C f n ⟨[],d,g,l,is,ll,pp,.cond (.t a) ns x y::st⟩:=rfl
@[go_sem] theorem yaf:dtok C 2 10 f n ⟨[a],d,g,l,is,ll,pp,x::st⟩=za9 C f n ⟨[],d,g,l,is,ll,pp,.blk a x::st⟩:=rfl
@[go_sem] theorem z8o:dtok C 2 11 f n ⟨[a],d,g,l,is,ll,pp,st⟩=za9 C f n ⟨[],d,g,l,is,ll,pp,.loop (nth .bad C.gs a)::st⟩:=rfl
@[go_sem] theorem z9y:dtok C 2 12 f n ⟨[],d,g,l,is,ll,pp,st⟩=za9 C f n ⟨[],d,g,l,is,ll,pp,.ret::st⟩:=rfl
@[go_sem] theorem z92:dtok C 2 13 f n ⟨[],d,g,l,is,ll,pp,st⟩=za9 C f n ⟨[],d,g,l,is,ll,pp,.nop::st⟩:=rfl
@[go_sem] theorem yac:dtok C 2 14 f n ⟨[a],d,g,l,is,ll,pp,st⟩=za9 C f n ⟨[],d,g,l,is,ll,pp,.ext a::st⟩:=rfl
@[go_sem] theorem yct:dtok C 2 15 f n ⟨[a],d,g,l,is,ll,pp,st⟩=za9 C f n ⟨[],d,none,[],nth ⟨none,.bad,none⟩ C.xs a::is,l::ll,pp,st⟩:=rfl
@[go_sem] theorem ybz:dtok C 2 16 f n ⟨[a],d,g,l,is,ll,pp,st⟩=za9 C f n ⟨[],(d-1),none,[],nth ⟨none,.bad,none⟩ C.xs a::is,l::ll,pp,st⟩:=rfl
@[go_sem] theorem yb2:dtok C 2 17 f n ⟨[a],d,g,l,is,ll,pp,st⟩=za9 C f n ⟨[],(d-1),none,[],⟨some d,.mv (.t a),g⟩::is,l::ll,pp,st⟩:=rfl
@[go_sem] theorem yca:dtok C 2 18 f n ⟨[a,k],d,g,l,is,ll,pp,st⟩=za9 C f n ⟨[],(d-1),none,[],⟨some d,.faddr k (.t a),g⟩::is,l::ll,pp,st⟩:=rfl
@[go_sem] theorem yb3:dtok C 2 19 f n ⟨[a,k],d,g,l,is,ll,pp,st⟩=za9 C f n ⟨[],(d-1),none,[],⟨some d,.load k true (.t a),g⟩::is,l::ll,pp,st⟩:=rfl
@[go_sem] theorem yb4:dtok C 2 20 f n ⟨[a,k],d,g,l,is,ll,pp,st⟩=za9 C f n ⟨[],(d-1),none,[],⟨some d,.load k false (.t a),g⟩::is,l::ll,pp,st⟩:=rfl
@[go_sem] theorem yab:dtok C 2 21 f n ⟨[c,a,k],d,g,l,is,ll,pp,st⟩=za9 C f n ⟨[],(d-1),none,[],⟨some d,.ibin (nth .add bops k) (.t a) (.c (.p (.int .i64 c))),g⟩::is,l::ll,pp,st⟩:=rfl
@[go_sem] theorem yb1:dtok C 2 22 f n ⟨[b,a,k],d,g,l,is,ll,pp,st⟩=za9 C f n ⟨[],d,none,[],⟨none,.store k (.t a) (.t b),g⟩::is,l::ll,pp,st⟩:=rfl
@[go_sem] theorem yb5:dtok C 2 23 f n ⟨[b,a,k],d,g,l,is,ll,pp,st⟩=za9 C f n ⟨[],(d-1),none,[],⟨some d,.ibin (nth .add bops k) (.t a) (.t b),g⟩::is,l::ll,pp,st⟩:=rfl
@[go_sem] theorem yb6:dtok C 2 24 f n ⟨[b,a,k],d,g,l,is,ll,pp,st⟩=za9 C f n ⟨[],(d-1),none,[],⟨some d,.iaddr k (.t a) (.t b),g⟩::is,l::ll,pp,st⟩:=rfl
@[go_sem] theorem z95:dtok C 2 25 f n ⟨[c],d,g,l,is,ll,pp,st⟩=za9 C f n ⟨[],(d-1),none,[],⟨some d,.mv (.c (.p (.int .i64 c))),g⟩::is,l::ll,pp,st⟩:=rfl
@[go_sem] theorem yae:dtok C 2 26 f n ⟨[a,k],d,g,l,is,ll,pp,st⟩=za9 C f n ⟨[],(d-1),none,[],⟨some d,.box k (.t a),g⟩::is,l::ll,pp,st⟩:=rfl
@[go_sem] theorem z98:dtok C 2 27 f n ⟨[a],d,g,l,is,ll,pp,st⟩=za9 C f n ⟨[],(d-1),none,[],⟨some d,.len (.t a),g⟩::is,l::ll,pp,st⟩:=rfl
@[go_sem] theorem z96:dtok C 2 28 f n ⟨[c],d,g,l,is,ll,pp,st⟩=za9 C f n ⟨[],(d-1),none,[],⟨some d,.mv (.c (.p (.bool (nth true [false] c)))),g⟩::is,l::ll,pp,st⟩:=rfl
@[go_sem] theorem z8s:dtok C 2 29 f n ⟨k::as,d,g,l,is,ll,pp,st⟩=za9 C f n ⟨[],(d-1),none,[],⟨some d,.call (nth 0 C.fs k) (as.map .t),g⟩::is,l::ll,pp,st⟩:=rfl
@[go_sem] theorem z6n:dtok C 2 30 f n ⟨[b,a],d,g,l,is,ll,pp,st⟩=za9 C f n ⟨[],(d-1),none,[],⟨some d,.pick (.t a) (.t b) (.c (.p (.bool false))),g⟩::is,l::ll,pp,st⟩:=rfl
@[go_sem] theorem z8p:dtok C 2 31 f n ⟨[k,a],d,g,l,is,ll,pp,st⟩=za9 C f n ⟨[],(d-1),none,[],⟨some d,.extract (.t a) k,g⟩::is,l::ll,pp,st⟩:=rfl
@[go_sem] theorem z6m:dtok C 2 32 f n ⟨[b,a],d,g,l,is,ll,pp,st⟩=za9 C f n ⟨[],(d-1),none,[],⟨some d,.pick (.t a) (.c (.p (.bool true))) (.t b),g⟩::is,l::ll,pp,st⟩:=rfl
@[go_sem] theorem z94:dtok C 2 33 f n ⟨[],d,g,l,is,ll,pp,st⟩=za9 C f n ⟨[],(d-1),none,[],⟨some d,.mv (.c .nil),g⟩::is,l::ll,pp,st⟩:=rfl
@[go_sem] theorem z91:dtok C 2 34 f n ⟨[a],d,g,l,is,ll,pp,st⟩=za9 C f n ⟨[],(d-1),none,[],⟨some d,.not (.t a),g⟩::is,l::ll,pp,st⟩:=rfl
@[go_sem] theorem z6q:dtok C 2 35 f n ⟨[z,k],d,g,l,is,ll,pp,st⟩=za9 C f n ⟨[],(d-1),none,[],⟨some d,.alloc k (nth .nil C.zs z),g⟩::is,l::ll,pp,st⟩:=rfl
@[go_sem] theorem yag:dtok C 2 36 f n ⟨[b,a,k],d,g,l,is,ll,pp,st⟩=za9 C f n ⟨[],(d-1),none,[],⟨some d,.append k (.t a) (.t b),g⟩::is,l::ll,pp,st⟩:=rfl
@[go_sem] theorem yad:dtok C 2 37 f n ⟨[a,z,k],d,g,l,is,ll,pp,st⟩=za9 C f n ⟨[],(d-1),none,[],⟨some d,.bslice k (nth .nil C.zs z) 1 [(0,.t a)],g⟩::is,l::ll,pp,st⟩:=rfl
@[go_sem] theorem z6o:dtok C 2 38 f n ⟨k::as,d,g,l,is,ll,pp,st⟩=za9 C f n ⟨[],(d-1),none,[],⟨some d,.callv (.t k) (as.map .t),g⟩::is,l::ll,pp,st⟩:=rfl
@[go_sem] theorem z6p:dtok C 2 39 f n ⟨z::as,d,g,l,is,ll,pp,st⟩=za9 C f n ⟨[],(d-1),none,[],⟨some d,.build (aggL (nth .nil C.zs z)) (zzq as),g⟩::is,l::ll,pp,st⟩:=rfl
@[go_sem] theorem z8q:dtok C 2 40 f n ⟨[a,k],d,g,l,is,ll,pp,st⟩=za9 C f n ⟨[],(d-1),none,[],⟨some d,.conv (nth .i64 iks k) (.t a),g⟩::is,l::ll,pp,st⟩:=rfl
@[go_sem] theorem z99:dtok C 2 41 f n ⟨[c,a,k,z],d,g,l,is,ll,pp,st⟩=za9 C f n ⟨[],(d-1),none,[],⟨some d,.ibin (nth .add bops k) (.t a) (.c (.p (.int (nth .i64 iks z) c))),g⟩::is,l::ll,pp,st⟩:=rfl
@[go_sem] theorem yaa:dtok C 2 42 f n ⟨[a,c,k],d,g,l,is,ll,pp,st⟩=za9 C f n ⟨[],(d-1),none,[],⟨some d,.ibin (nth .add bops k) (.c (.p (.int .i64 c))) (.t a),g⟩::is,l::ll,pp,st⟩:=rfl
@[go_sem] theorem z93:dtok C 2 43 f n ⟨[c,k],d,g,l,is,ll,pp,st⟩=za9 C f n ⟨[],(d-1),none,[],⟨some d,.mv (.c (.p (.int (nth .i64 iks k) c))),g⟩::is,l::ll,pp,st⟩:=rfl
@[go_sem] theorem yb0:dtok C 2 44 f n ⟨k::a::ns,d,g,l,is,ll,pp,st⟩=za9 C f n ⟨up k a ns,d,g,l,is,ll,pp,st⟩:=rfl
@[go_sem] theorem ycb:dtok C 2 45 f n ⟨k::a::ns,d,g,l,is,ll,pp,st⟩=za9 C f n ⟨dn k a ns,d,g,l,is,ll,pp,st⟩:=rfl
end
end Go.Ab
