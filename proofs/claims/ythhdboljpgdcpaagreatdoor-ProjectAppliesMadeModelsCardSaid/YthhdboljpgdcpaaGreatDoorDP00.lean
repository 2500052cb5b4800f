/- Lemmas for the law ProjectAppliesMadeModels, part 0. No conditions. -/
import Derived.Calls
import Derived.Orders
import Derived.Laws.AppendOwn
import Derived.Laws.MakeOwn
import Derived.DeepKeys4
import Derived.Laws.StructEq
set_option maxRecDepth 100000
set_option maxHeartbeats 4000000
set_option linter.all false
namespace Go.Ab
def aX:=@if_pos
def bD:=@if_neg
def bU:=@List.getElem_mem
def cA:=@List.mem_map
def cD:=@Option.some.injEq
def cH:=@if_true
def cI:=@List.mem_cons
def c5:=@Prod.mk.injEq
def dE:=@Nat.le_refl
def dM:=@Nat.le_trans
def dN:=@List.mem_append
def dO:=@List.getElem?_eq_getElem
def ed:=@List.take_succ_eq_append_getElem
def eV:=@List.getD_eq_getElem?_getD
def eZ:=@List.take_of_length_le
def fQ:=@if_false
def gQ:=@List.length_append
def fY:=@List.length_take
def kK:=@List.take_length
def gP:=@Bool.false_eq_true
def iC:=@List.mem_of_mem_take
def iL:=@Nat.lt_of_lt_of_le
def iK:=@Bool.eq_false_or_eq_true
def iU:=@List.getElem?_eq_some_iff
def iT:=@List.mem_singleton
def jH:=@List.map_cons
def jG:=@List.flatMap_cons
def jO:=@Bool.and_eq_true
def kJ:=@Nat.pow_succ
def jU:=@Nat.mul_le_mul_right
def rN:=@Nat.pow_add
def kD:=@List.mem_of_mem_drop
def kC:=@List.mem_flatMap
def kB:=@List.length_filter_le
def kI:=@List.mem_filter
def lp:=@List.length_drop
def k8:=@List.all_eq_true
def kZ:=@Int.toNat_natCast
def kY:=@List.append_nil
def mT:=@Nat.mul_le_mul
def pX:=@Nat.mul_assoc
def mS:=@List.pairwise_cons
def mW:=@Sem.run_bind
def oK:=@List.take_append_drop
def sI:=@List.append_assoc
def uQ:=@List.drop_drop
def oJ:=@Sem.run_pure
def sT:=@Nat.add_mul
def oI:=@Nat.mul_comm
def oY:=@Nat.lt_of_le_of_lt
def pW:=@Nat.lt_or_ge
def pV:=@Nat.pow_le_pow_right
def pU:=@List.lt_irrefl
def qH:=@List.length_cons
def qG:=@List.getElem?_append_right
def qF:=@Result.andThen_ok
def ra:=@List.length_map
def q9:=@List.eq_nil_of_length_eq_zero
def qZ:=@Nat.pow_pos
def qY:=@Rat.add_zero
def qW:=@List.mem_iff_getElem
def sH:=@Array.getElem?_eq_some_iff
def sG:=@Nat.zero_add
def sF:=@List.not_mem_nil
def sE:=@Nat.mul_add
def sS:=@List.map_append
def tY:=@List.pairwise_append
def tX:=@List.mem_cons_of_mem
def tW:=@List.filter_append
def uP:=@List.nil_append
def uO:=@Nat.add_zero
def uN:=@Nat.min_eq_left
def uM:=@Nat.mod_eq_of_lt
def uL:=@List.nodup_cons
def uK:=@List.map_congr_left
def uJ:=@Nat.mul_lt_mul''
def vK:=@List.getElem?_set
def vJ:=@List.drop_eq_getElem_cons
def vI:=@Nat.zero_le
def wN:=@List.getElem?_append_left
def wM:=@List.mem_of_getElem?
def wL:=@Option.map_eq_some_iff
def wJ:=@Ne.symm
def Ah:=@Nat.succ_mul
def xY:=@List.drop_of_length_le
def Ag:=@List.flatMap_append
def xX:=@List.cons_append
def xW:=@Option.getD_some
def Af:=@Rat.add_assoc
def xV:=@List.concat_eq_append
def yG:=@List.map_map
def yF:=@List.mem_range
def Ae:=@List.drop_zero
def Ad:=@Nat.mod_lt
def Ac:=@Nat.div_eq_of_lt
def Aa:=@Nat.mul_le_mul_left
def yr2:=@Nat.mul_ne_zero
def yr3:=@List.foldl_append
def Bd:=@Nat.le_of_lt
def Bc:=@Rat.zero_add
def Bb:=@List.ext_getElem
def Ba:=@Nat.le_of_eq
def Cm:=@List.getElem?_drop
def Cl:=@List.getElem?_take
def Dg:=@Nat.add_assoc
def Ck:=@Option.isSome_iff_exists
def Cj:=@List.replicate_succ
def Ci:=@Nat.eq_zero_or_pos
def Ch:=@List.mem_replicate
def Cg:=@List.mapM_cons
def Cf:=@List.mem_append_left
def Ce:=@List.getElem_map
def Cd:=@Nat.mul_pos
def Cc:=@Nat.div_le_self
def Cb:=@Rat.add_comm
def Ca:=@List.lt_trans
def Df:=@Rat.not_lt
def B':=@List.eq_nil_or_concat
def B9:=@Nat.dvd_trans
def B8:=@List.eq_of_mem_replicate
def B7:=@List.range_succ
def De:=@List.take_append_of_le_length
def Dd:=@List.length_pos_iff
def Dc:=@Bool.or_eq_true
def Db:=@Nat.sub_self
def NH:=@Nat.div_div_eq_div_mul
def Da:=@Nat.div_lt_iff_lt_mul
def C':=@List.set_append_right
def C9:=@Nat.pos_of_ne_zero
def C8:=@List.foldl_cons
def E7:=@List.drop_append_of_le_length
def E6:=@List.ext_getElem?
def E5:=@List.mem_or_eq_of_mem_set
def ys4:=@Array.toList_map
def E4:=@Option.map_some
def E3:=@List.contains_iff_mem
def E2:=@Oper.upon_enter
def E1:=@Array.getElem?_eq_none
def E0:=@List.getElem?_eq_none
def EZ:=@List.getElem?_map
def EY:=@Array.mapM_eq_mapM_toList
def EX:=@List.map_set
def EW:=@List.drop_eq_nil_of_le
def EV:=@List.filter_cons
def G0:=@List.set_cons_zero
def GZ:=@Nat.add_sub_cancel
def TR:=@Array.length_toList
def GY:=@List.take_take
def GX:=@List.size_toArray
def GV:=@List.take_succ_cons
def GU:=@Bool.and_self
def GS:=@List.nodup_append
def TQ:=@Nat.pow_mul
def GR:=@Nat.div_add_mod
def GQ:=@List.findIdx?_eq_none_iff
def GP:=@List.findIdx?_eq_some_iff_getElem
def GO:=@Nat.pos_iff_ne_zero
def GN:=@Bool.true_and
def GM:=@List.filterMap_cons
def GL:=@List.filter_eq_self
def GK:=@Decidable.byContradiction
def GJ:=@List.cons_lt_cons_iff
def GI:=@List.getElem_range
def JK:=@Nat.zero_mul
def JJ:=@List.take_zero
def JI:=@List.drop_take
def JH:=@List.mem_flatten
def JG:=@Nat.le_mul_of_pos_right
def JF:=@List.Pairwise.sublist
def JE:=@Array.getD_eq_getD_getElem?
def JD:=@List.Pairwise.imp_of_mem
def JC:=@List.map_nil
def JB:=@Int.eq_ofNat_of_zero_le
def JA:=@Nat.add_mul_div_left
def Jz:=@Nat.le_div_iff_mul_le
def Jy:=@List.drop_set_of_lt
def Jx:=@List.length_eq_one_iff
def Jw:=@Nat.le_mul_of_pos_left
def Jv:=@List.replicate_succ'
def TP:=@Rat.sub_eq_add_neg
def Ju:=@Nat.pow_lt_pow_right
def Jt:=@List.getElem_of_mem
def Js:=@List.take_sublist
def NG:=@Option.some.inj
def Jr:=@List.pairwise_map
def Jq:=@List.length_singleton
def Jp:=@Nat.mul_div_le
def Jo:=@Nat.dvd_mul_right
def Jn:=@Nat.dvd_mul_left
def Jm:=@List.getElem?_replicate
def Jl:=@List.count_le_length
def NF:=@List.drop_succ_cons
def ND:=@List.exists_mem_of_ne_nil
def NC:=@List.append_of_mem
def NB:=@Nat.lt_trichotomy
def NA:=@Array.getElem?_replicate
def Nz:=@List.pairwise_lt_range
def Ny:=@Bool.not_eq_true'
def Nx:=@Nat.or_lt_two_pow
def Nw:=@Nat.eq_zero_of_not_pos
def Nv:=@Nat.add_mul_mod_self_left
def Nu:=@Nat.gcd_pos_of_pos_left
def Nt:=@List.getElem_cons_zero
def Ns:=@List.pairwise_iff_getElem
def Nr:=@List.take_set_of_le
def Nq:=@Nat.pow_le_pow_left
def TO:=@List.eq_nil_iff_forall_not_mem
def TN:=@Array.getElem?_setIfInBounds_self
inductive PV where
 | bool (b:Bool)
 | int (k:IntKind) (n:Int)
 | str (s:ByteArray)
 | sl (es:List PV)
 | agg (cs:List PV)
 | fn (f:FuncId) (iF:List PV)
 | ref (v:PV)
 | aL
 | bM (vs:List PV)
 | any
 | nl
 | sle
 | fM (r:Nat)
 | wZ (r:Nat)
 | mp (r:Nat) (ks vs:List PV)
 deriving Inhabited
inductive AV where
 | p (v:PV)
 | nil
 | own (s g off len:Nat)
 | ptr (s g ix off:Nat)
 | cp (v:PV) (vM off:Nat)
 | agg (cs:List AV)
 | fn (f:FuncId) (iF:List AV)
 | bM (vs:List AV)
 | skip
 | undef
 deriving Inhabited
def PV.cells:PV->List PV
 | .agg cs=>cs
 | v=>[v]
def AV.cells:AV->List AV
 | .p (.agg cs)=>cs.map .p
 | .agg cs=>cs
 | v=>[v]
def PV.one:PV->Bool
 | .agg _ | .bM _=>false
 | _=>true
def AV.one:AV->Bool
 | .p v=>v.one
 | .agg _ | .bM _ | .skip | .undef=>false
 | _=>true
def PV.sz:PV->Nat
 | .agg cs=>if cs.length<=1 then 0 else cs.length
 | .bM _=>0
 | _=>1
def AV.sz:AV->Nat
 | .p v=>v.sz
 | .agg cs=>if cs.length<=1 then 0 else cs.length
 | .bM _ | .skip | .undef=>0
 | _=>1
def va:List AV->Option (List PV)
 | []=>some []
 | .p v::r=>match va r with
  | some b=>some (v::b)
  | none=>none
 | _::_=>none
def eQ(cs:List AV):AV :=
 match va cs with
 | some b=>.p (.agg b)
 | none=>.agg cs
def PV.yO(v:PV)(off sz:Nat)(ag:Bool):Option PV :=
 if ag then(if ((v.cells.drop off).take sz).length=sz/\1<sz then some (.agg ((v.cells.drop off).take sz))else none)
 else if sz=1 then((v.cells.drop off).take 1).head? else none
def AV.yO(v:AV)(off sz:Nat)(ag:Bool):Option AV :=
 if ag then(if ((v.cells.drop off).take sz).length=sz/\1<sz then some (eQ ((v.cells.drop off).take sz))else none)
 else if sz=1 then((v.cells.drop off).take 1).head? else none
def AV.jB:AV->Option (List AV)
 | .p (.agg cs)=>some (cs.map .p)
 | .agg cs=>some cs
 | _=>none
def sW(cs:List AV)(off sz:Nat)(b:Bool):Option AV :=
 if b then(if ((cs.drop off).take sz).length=sz/\1<sz then some (eQ ((cs.drop off).take sz))else none)
 else if sz=1 then((cs.drop off).take 1).head? else none
def AV.rT(v:AV)(off:Nat)(x:AV):Option AV :=
 if off+x.cells.length<=v.cells.length/\1<v.cells.length then
  some (eQ (v.cells.take off++x.cells++v.cells.drop (off+x.cells.length)))else none
structure bI where
 sz:Nat
 es:List AV
def look{α : Type}(l:List (Nat × α))(t:Nat)(d : α) : α :=
 match l with
 | []=>d
 | (k,v)::r=>if k=t then v else look r t d
structure St where
 sl:List (Nat × AV)
 hp:List (Nat × List (Option bI))
def St.get(st:St)(t:Nat):AV:=look st.sl t .undef
def St.site(st:St)(s:Nat):List (Option bI):=look st.hp s []
def St.obj(st:St)(s g:Nat):Option bI:=((st.site s)[g]?).getD none
def St.put(st:St)(d:Option Nat)(v:AV):St :=
 match d with
 | some t=>{ st with sl:=(t,v)::st.sl }
 | none=>st
inductive bP where
 | t (n:Nat)
 | c (v:AV)
def St.ev(st:St):bP->AV
 | .t n=>st.get n
 | .c v=>v
def eL:Nat:=2147483648
def bH(st:St):Nat->AV->Option PV
 | 0,v=>if v.one then some .any else none
 | n+1,v=>match v with
  | .p v=>some v
  | .nil=>some (.sl [])
  | .own s g b i=>match st.obj s g with
   | some o=>if b+i<=o.es.length then(((o.es.drop b).take i).mapM (bH st n)).map .sl else none
   | none=>none
  | .ptr s g k b=>if k=0/\b=0 then match st.obj s g with
   | some o=>match o.es with
    | [e]=>(bH st n e).map .ref
    | _=>none
   | none=>none
   else none
  | .cp v _ b=>if b=0 then some (.ref v)else none
  | .agg j=>(j.mapM (bH st n)).map .agg
  | .fn f h=>(h.mapM (bH st n)).map (.fn f)
  | .bM l=>(l.mapM (bH st n)).map .bM
  | .skip | .undef=>none
def aS(st:St):Nat->AV->List (Nat × Nat)
 | 0,_=>[]
 | n+1,v=>match v with
  | .own s g _ _=>(s,g)::(match st.obj s g with
   | some o=>o.es.flatMap (aS st n)
   | none=>[])
  | .ptr s g _ _=>(s,g)::(match st.obj s g with
   | some o=>o.es.flatMap (aS st n)
   | none=>[])
  | .agg f=>f.flatMap (aS st n)
  | .fn _ b=>b.flatMap (aS st n)
  | .bM h=>h.flatMap (aS st n)
  | _=>[]
def bF:Nat:=6
def PV.rG:PV->Bool
 | .bool _ | .int _ _ | .str _ | .aL | .any=>true
 | _=>false
def PV.flat:PV->Bool
 | .agg cs=>cs.all PV.rG
 | v=>v.rG
def PV.unit:PV->Bool
 | .bM []=>true
 | _=>false
inductive c7 where
 | mv (x:bP)
 | pick (c a b:bP)
 | alloc (sz:Nat) (zero:AV)
 | box (sz:Nat) (x:bP)
 | build (zero:List AV) (parts:List (Nat × Nat × bP))
 | b4 (sz:Nat) (zero:AV) (n:Nat) (parts:List (Nat × bP))
 | load (sz:Nat) (ag:Bool) (x:bP)
 | store (sz:Nat) (a v:bP)
 | bV (x:bP)
 | dI (op:BinOp) (x y:bP)
 | gJ (op:BinOp) (x y:bP)
 | j' (ks:List (Option IntKind)) (op:BinOp) (x y:bP)
 | not (x:bP)
 | neg (x:bP)
 | tA (x:bP)
 | conv (k:IntKind) (x:bP)
 | gT (f:FuncId) (iF:List bP)
 | cM (sz:Nat) (zero:AV) (len cap:bP)
 | slice (sz:Nat) (x:bP) (lo hi:Option bP)
 | iP (off:Nat) (x:bP)
 | field (off sz:Nat) (ag:Bool) (x:bP)
 | cG (sz:Nat) (x i:bP)
 | cB (n sz:Nat) (x i:bP)
 | idx (n sz:Nat) (ag:Bool) (x i:bP)
 | extract (x:bP) (i:Nat)
 | len (x:bP)
 | append (sz:Nat) (a x:bP)
 | min (xs:List bP)
 | max (xs:List bP)
 | call (f:FuncId) (args:List bP)
 | iv (f:bP) (args:List bP)
 | ic (neg:Bool) (x:bP)
 | cap (x:bP)
 | clear (sz:Nat) (zero:AV) (x:bP)
 | fE (sz:Nat) (zero:AV) (a n:bP)
 | qK (x i:bP)
 | mr (qs:List IntKind) (zero:AV) (x k:bP)
 | jY (qs:List IntKind) (zero:AV) (x k:bP)
 | raw (op:Op)
 | bad
structure Ins where
 dst:Option Nat
 op:c7
 guard:Option (Nat × Bool)
inductive AC where
 | js
 | cX (ops:List Ins)
 | fR (ops:List Ins) (pre:List (List Nat))
 | seq (a b:AC)
 | cond (c:bP) (a b:AC)
 | bX (id:Nat) (b:AC)
 | loop (b:AC)
 | Dp (b:AC)
 | ext (id:Nat)
 | ret
 | bad
def tD:List PV->List PV->Bool
 | [],[]=>true
 | .int k a::r,.int f b::s=>decide (k=f)&&decide (a=b)&&tD r s
 | _,_=>false
def oE(kc:List PV):List PV->List PV->Option PV
 | .agg c::b,v::f=>if tD c kc=true then some v else oE kc b f
 | _::b,_::f=>oE kc b f
 | _,_=>none
def kA:List IntKind->List PV->Bool
 | [],[]=>true
 | q::b,.int k n::r=>decide (k=q)&&(Lit.int k n).wf&&kA b r
 | _,_=>false
def sA(b:List IntKind):PV->Bool
 | .agg c=>kA b c
 | _=>false
abbrev Site:=Nat × List (Option bI)
inductive HV
 | av (v:AV)
 | fr (sz:Nat) (es:List PV)
 | bx (sz:Nat) (e:AV) (us:List PV)
inductive RV where
 | pure (v:PV)
 | fresh (sz:Nat) (es:List PV)
 | same (len:Nat)
 | oo (vs:List AV) (hp:List Site) (res:HV) (iO:List Site)
def PV.nM(v:PV):Bool:=v.flat||v.unit
def RV.flat:RV->Bool
 | .pure v=>v.nM
 | .fresh _ es=>es.all PV.flat
 | .same _=>true
 | .oo _ _ _ _=>true
structure bJ where
 f:FuncId
 args:List PV
 res:RV
 tn:Option (Nat × Nat × List PV):=none
def BF(f:BinOp)(k:IntKind)(a b:Int):Option PV :=
 match f with
 | .add=>some (.int k (k.wrap (a+b)))
 | .sub=>some (.int k (k.wrap (a - b)))
 | .mul=>some (.int k (k.wrap (a*b)))
 | .quo=>if b=0 then none else some (.int k (k.wrap (a.tdiv b)))
 | .rem=>if b=0 then none else some (.int k (a.tmod b))
 | .and=>some (.int k (k.wrap (BitVec.ofInt k.bits a &&& BitVec.ofInt k.bits b).toNat))
 | .or=>some (.int k (k.wrap (BitVec.ofInt k.bits a ||| BitVec.ofInt k.bits b).toNat))
 | .xor=>some (.int k (k.wrap (BitVec.ofInt k.bits a ^^^ BitVec.ofInt k.bits b).toNat))
 | .andNot=>some (.int k (k.wrap (BitVec.ofInt k.bits a &&& ~~~ BitVec.ofInt k.bits b).toNat))
 | .eql=>some (.bool (a == b))
 | .neq=>some (.bool (a != b))
 | .lss=>some (.bool (a<b))
 | .leq=>some (.bool (a<=b))
 | .gtr=>some (.bool (a>b))
 | .geq=>some (.bool (a ≥ b))
 | _=>none
def F4(f:BinOp)(k:IntKind)(a b:Int):Option PV :=
 if b<0 then none else match f with
 | .shl=>some (.int k (k.wrap (a*2^Nat.min b.toNat k.bits)))
 | .shr=>some (.int k (a.fdiv (2^Nat.min b.toNat k.bits)))
 | _=>none
def xO:BinOp->Bool
 | .shl | .shr=>true
 | _=>false
def dI(f:BinOp)(x y:AV):Option PV :=
 match x,y with
 | .p (.int k a),.p (.int h b)=>if xO f then F4 f k a b else if k=h then BF f k a b else none
 | _,_=>none
def gJ(f:BinOp)(x y:AV):Option PV :=
 match x,y with
 | .p (.bool a),.p (.bool b)=>match f with
  | .eql=>some (.bool (a == b))
  | .neq=>some (.bool (!(a == b)))
  | _=>none
 | _,_=>none
def tP:List (Option IntKind)->List PV->List PV->Option Bool
 | [],[],[]=>some true
 | some k::f,.int h a::r,.int i b::s=>if h=k/\i=k then(match tP f r s with|some t=>some (a == b&&t)|none=>none)else none
 | none::f,.bool a::r,.bool b::s=>match tP f r s with|some t=>some ((a == b)&&t)|none=>none
 | _,_,_=>none
def j'(ks:List (Option IntKind))(b:BinOp)(x y:AV):Option PV :=
 match x,y with
 | .p (.agg f),.p (.agg h)=>match tP ks f h,b with
  | some t,.eql=>some (.bool t)
  | some t,.neq=>some (.bool (!t))
  | _,_=>none
 | _,_=>none
def AV.uS:AV->AV
 | .nil=>.p (.sl [])
 | v=>v
def AV.ey:AV->AV
 | .nil=>.p (.sl [])
 | .agg cs=>eQ (cs.map AV.uS)
 | v=>v
def AV.uT:AV->AV
 | .nil=>.nil
 | v=>v.ey
def St.elems(st:St):AV->Option (List AV)
 | .p (.sl es)=>some (es.map .p)
 | .nil=>some []
 | .p .nl=>some []
 | .p .sle=>some []
 | .own s g off len=>match st.obj s g with
  | some o=>if off+len<=o.es.length then some ((o.es.drop off).take len)else none
  | none=>none
 | _=>none
def vw:AV->Option Nat
 | .p (.int _ n)=>if 0<=n then some n.toNat else none
 | _=>none
def sP(st:St)(o:Option bP)(n:Nat):Option Nat :=
 match o with
 | some x=>vw (st.ev x)
 | none=>some n
def A5(cells:List AV):List (Nat × Nat × AV)->Option (List AV)
 | []=>some cells
 | (b,f,v)::r=>if v.sz=f/\0<f/\b+f<=cells.length then A5 (cells.take b++v.cells++cells.drop (b+f)) r else none
def A4(es:List AV)(sz:Nat):List (Nat × AV)->Option (List AV)
 | []=>some es
 | (i,v)::r=>if v.sz=sz/\i<es.length then A4 (es.set i v) sz r else none
def CR(l:List (Option bI))(g:Nat):List (Option bI):=l.set g none
def aI(st:St):List (Nat × Nat)->St
 | []=>st
 | (s,g)::r=>aI { st with hp:=(s,CR (st.site s) g)::st.hp } r
def St.alloc(st:St)(d:Nat)(o:bI):St:={ st with hp:=(d,st.site d++[some o])::st.hp }
def St.setObj(st:St)(s g:Nat)(o:bI):St:={ st with hp:=(s,(st.site s).set g (some o))::st.hp }
def yh(mx:Bool):List AV->Option PV
 | .p (.int k a)::r=>r.foldlM (λf v=>match f,v with
  | .int k a,.p (.int h b)=>if k=h then some (.int k (if mx then(if b>a then b else a)else(if b<a then b else a)))else none
  | _,_=>none) (.int k a)
 | _=>none
def zN(c:bJ)(st:St)(d:Nat)(ids:List (Nat × Nat)):Option (AV × St) :=
 let b:=if c.res.flat then st else aI st ids
 match c.res with
 | .pure v=>some (.p v,b)
 | .fresh h f=>if f.all (λv=>v.sz == h)=true/\0<h/\f.length<=eL then some (.own d (b.site d).length 0 f.length,b.alloc d ⟨h,f.map .p⟩)else none
 | .same _=>none
 | .oo _ _ _ _=>none
def BH:Option AV->Option (Nat × Nat × Nat × Bool)
 | some (.own s g b f)=>if b=0 then some (s,g,f,true)else none
 | some (.ptr s g h b)=>if h=0/\b=0 then some (s,g,1,false)else none
 | _=>none
def EO(c:bJ)(b:List PV)(st:St)(ids:List (Nat × Nat))(s g sz:Nat):St :=
 (if (c.res.flat&&b.all PV.flat)=true then st else aI st ids).setObj s g ⟨sz,b.map .p⟩
def AG(c:bJ)(i sz:Nat)(b:List PV)(st:St)(vs:List AV):Option (AV × St) :=
 match BH vs[i]? with
 | some (s,g,f,k)=>match st.obj s g with
  | some o =>
   let h:=(vs.eraseIdx i).flatMap (aS st bF)++o.es.flatMap (aS st 5)
   if i<vs.length/\f=o.es.length/\b.length=f/\o.sz=sz/\b.all (λv=>v.sz == sz)=true/\(b.flatMap PV.cells).all PV.one=true/\h.contains (s,g)=false then
    let j:=EO c b st h s g sz
    match c.res with
    | .pure v=>some (.p v,j)
    | .fresh _ _=>none
    | .same l=>if l<=f/\k=true then some (.own s g 0 l,j)else none
    | .oo _ _ _ _=>none
   else none
  | none=>none
 | none=>none
mutual
def pR(ks:List Nat):AV->Bool
 | .own s _ _ _=>ks.contains s
 | .ptr s _ _ _=>ks.contains s
 | .agg b=>lC ks b
 | .fn _ b=>lC ks b
 | .bM b=>lC ks b
 | _=>true
def lC(ks:List Nat):List AV->Bool
 | []=>true
 | v::r=>pR ks v&&lC ks r
end
def vT(ks:List Nat):Option bI->Bool
 | none=>true
 | some o=>lC ks o.es
def dS(ks:List Nat)(hp:List Site):Bool:=hp.all λq=>q.2.all (vT ks)
def vU(ks:List Nat):HV->Bool
 | .av v=>pR ks v
 | .fr b f=>f.all (λe=>e.sz == b)&&decide (0<b)
 | .bx b e _=>e.sz == b&&decide (0<b)&&pR ks e
def qA(st:St)(hp:List Site):List Site->Prop
 | []=>True
 | q::r=>st.site q.1=look hp q.1 []/\qA st hp r
def sO:HV->St->Nat->AV × St
 | .av v,st,_=>(v,st)
 | .fr b f,st,d=>(.own d (st.site d).length 0 f.length,st.alloc d ⟨b,f.map .p⟩)
 | .bx b e h,st,d=>(.bM (.ptr d (st.site d).length 0 0::h.map .p),st.alloc d ⟨b,[e]⟩)
def Zd(st:St)(vs:List AV)(hp:List Site)(f:HV)(b:List Site):Prop :=
 qA st hp hp/\b.map (·.1)=hp.map (·.1)/\(lC (hp.map (·.1)) vs&&dS (hp.map (·.1)) hp&&vU (hp.map (·.1)) f&&dS (hp.map (·.1)) b)=true
def BD(c:bJ)(st:St)(vs:List AV):Prop :=
 match c.res with
 | .oo h i f b=>vs=h/\AV.undef∉vs/\Zd st vs i f b
 | _=>vs.mapM (bH st bF)=some c.args
def zL(c:bJ)(st:St)(d:Nat)(vs:List AV):Option (AV × St) :=
 match c.res with
 | .oo _ k h f=>some (sO h ⟨st.sl,f++st.hp⟩ d)
 | _=>match c.tn with
  | none=>zN c st d (vs.flatMap (aS st bF))
  | some (i,j,b)=>AG c i j b st vs
noncomputable def xR(orc:Option bJ)(st:St)(d:Nat)(f:FuncId)(vs:List AV):Option (AV × St) :=
 match orc with
 | some c=>@ite _ (f=c.f/\BD c st vs) (Classical.propDecidable _) (zL c st d vs) none
 | none=>none
noncomputable def bY(orc:Option bJ)(st:St)(d:Nat):c7->Option (AV × St)
 | .mv x=>some (st.ev x,st)
 | .pick c a b=>match st.ev c with
  | .p (.bool true)=>some (st.ev a,st)
  | .p (.bool false)=>some (st.ev b,st)
  | _=>none
 | .alloc r zero=>if zero.sz=r/\0<r then some (.ptr d (st.site d).length 0 0,st.alloc d ⟨r,[zero]⟩)else none
 | .box r x=>if (st.ev x).sz=r/\0<r then some (.ptr d (st.site d).length 0 0,st.alloc d ⟨r,[st.ev x]⟩)else none
 | .build zero parts=>match A5 zero (parts.map λ(o,s,x)=>(o,s,st.ev x))with
  | some H=>some (eQ H,st)
  | none=>none
 | .b4 r zero n parts=>if zero.sz=r/\0<r/\n*r<=16777216 then
   match A4 (List.replicate n zero.ey) r (parts.map λ(i,x)=>(i,(st.ev x).ey))with
   | some D=>some (.own d (st.site d).length 0 n,st.alloc d ⟨r,D⟩)
   | none=>none
  else none
 | .load r G x=>match st.ev x with
  | .ptr s g A j=>match st.obj s g with
   | some o=>match o.es[A]? with
    | some e=>if j=0/\r=o.sz then some (e,st)else match e.yO j r G with
     | some v=>some (v,st)
     | none=>none
    | none=>none
   | none=>none
  | .cp v z j=>if j=0/\r=z then some (.p v,st)else match v.yO j r G with
   | some v=>some (.p v,st)
   | none=>none
  | _=>none
 | .store r a x=>match st.ev a with
  | .ptr s g A j=>match st.obj s g with
   | some o=>match o.es[A]? with
    | some e=>if (st.ev x).sz=r/\0<r then
      if j=0/\r=o.sz then some (.undef,st.setObj s g ⟨o.sz,o.es.set A (st.ev x)⟩)
      else match e.rT j (st.ev x)with
       | some N=>some (.undef,st.setObj s g ⟨o.sz,o.es.set A N⟩)
       | none=>none
     else none
    | none=>none
   | none=>none
  | _=>none
 | .bV x=>match st.ev x with
  | .ptr s g A j=>match st.obj s g with
   | some _=>some (.ptr s g A j,st)
   | none=>none
  | .p (.fn f u)=>some (.p (.fn f u),st)
  | .fn f u=>some (.fn f u,st)
  | .p (.ref v)=>some (.p (.ref v),st)
  | .cp v z j=>some (.cp v z j,st)
  | _=>none
 | .dI I x y=>match dI I (st.ev x) (st.ev y)with
  | some v=>some (.p v,st)
  | none=>none
 | .gJ I x y=>match gJ I (st.ev x) (st.ev y)with
  | some v=>some (.p v,st)
  | none=>none
 | .j' E I x y=>match j' E I (st.ev x) (st.ev y)with
  | some v=>some (.p v,st)
  | none=>none
 | .not x=>match st.ev x with
  | .p (.bool b)=>some (.p (.bool (!b)),st)
  | _=>none
 | .neg x=>match st.ev x with
  | .p (.int k n)=>some (.p (.int k (k.wrap (0 - n))),st)
  | _=>none
 | .tA x=>match st.ev x with
  | .p (.int k n)=>match BF .xor k (if k.signed then -1 else k.max) n with
   | some v=>some (.p v,st)
   | none=>none
  | _=>none
 | .conv k x=>match st.ev x with
  | .p (.int _ n)=>some (.p (.int k (k.wrap n)),st)
  | _=>none
 | .gT f u=>if (u.map st.ev).all AV.one then some (.fn f (u.map st.ev),st)else none
 | .cM r zero l c=>match vw (st.ev l),vw (st.ev c)with
  | some n,some m=>if n<=m/\m<=eL/\zero.sz=r/\0<r then some (.own d (st.site d).length 0 n,st.alloc d ⟨r,List.replicate n zero.uT⟩)else none
  | _,_=>none
 | .slice r x O M=>match sP st O 0,st.ev x with
  | some l,.p (.sl D)=>match sP st M D.length with
   | some h=>if l<=h/\h<=D.length/\D.all (λe=>e.sz == r)=true/\0<r then some (.p (.sl ((D.drop l).take (h - l))),st)else none
   | none=>none
  | some l,.own s g j t=>match sP st M t with
   | some h=>match st.obj s g with
    | some o=>if l<=h/\h<=t/\j+t<=o.es.length/\o.sz=r then some (.own s g (j+l) (h - l),st)else none
    | none=>none
   | none=>none
  | some l,.nil=>match sP st M 0 with
   | some h=>if l=0/\h=0 then some (.nil,st)else none
   | none=>none
  | _,_=>none
 | .iP j x=>match st.ev x with
  | .ptr s g A o=>match st.obj s g with
   | some _=>some (.ptr s g A (o+j),st)
   | none=>none
  | .cp v z o=>some (.cp v z (o+j),st)
  | _=>none
 | .field j r G x=>match (st.ev x).jB with
  | some H=>match sW H j r G with
   | some v=>some (v,st)
   | none=>none
  | none=>none
 | .cG r x i=>match vw (st.ev i),st.ev x with
  | some n,.p (.sl D)=>match D[n]? with
   | some e=>if e.sz=r/\0<r then some (.cp e r 0,st)else none
   | none=>none
  | some n,.own s g j t=>match st.obj s g with
   | some o=>if n<t/\j+t<=o.es.length/\o.sz=r then some (.ptr s g (j+n) 0,st)else none
   | none=>none
  | _,_=>none
 | .cB m r x i=>match vw (st.ev i),st.ev x with
  | some n,.ptr s g A o=>match st.obj s g with
   | some _=>if n<m then some (.ptr s g A (o+n*r),st)else none
   | none=>none
  | some n,.cp v z o=>if n<m then some (.cp v z (o+n*r),st)else none
  | _,_=>none
 | .idx m r G x i=>match vw (st.ev i)with
  | some n=>if n<m then match (st.ev x).jB with
    | some H=>match sW H (n*r) r G with
     | some v=>some (v,st)
     | none=>none
    | none=>none
   else none
  | none=>none
 | .extract x i=>match st.ev x with
  | .bM F=>match F[i]? with
   | some v=>some (v,st)
   | none=>none
  | .p (.bM F)=>match F[i]? with
   | some v=>some (.p v,st)
   | none=>none
  | _=>none
 | .len x=>match st.ev x with
  | .p (.sl D)=>some (.p (.int .i64 D.length),st)
  | .nil=>some (.p (.int .i64 0),st)
  | .own _ _ _ t=>some (.p (.int .i64 t),st)
  | _=>none
 | .append r a x=>match st.elems (st.ev x)with
  | some C=>if (C.map AV.ey).all (λv=>v.sz == r)=true/\0<r then match st.ev a with
   | .nil=>if C.length<=eL then some (.own d (st.site d).length 0 C.length,st.alloc d ⟨r,C.map AV.ey⟩)else none
   | .own s g j t=>match st.obj s g with
    | some o=>if j=0/\t=o.es.length/\o.sz=r/\t+C.length<=eL then
      let L:=aI st [(s,g)]
      some (.own d (L.site d).length 0 (t+C.length),L.alloc d ⟨r,o.es++C.map AV.ey⟩)
     else none
    | none=>none
   | _=>none
   else none
  | none=>none
 | .min C=>match yh false (C.map st.ev)with
  | some v=>some (.p v,st)
  | none=>none
 | .max C=>match yh true (C.map st.ev)with
  | some v=>some (.p v,st)
  | none=>none
 | .call f args=>xR orc st d f (args.map st.ev)
 | .iv x args=>match st.ev x with
  | .p (.fn f u)=>xR orc st d f (args.map st.ev++u.map .p)
  | .fn f u=>xR orc st d f (args.map st.ev++u)
  | _=>none
 | .ic B x=>match st.ev x with
  | .nil=>some (.p (.bool (!B)),st)
  | .p .nl=>some (.p (.bool (!B)),st)
  | .p .sle=>some (.p (.bool B),st)
  | .p (.sl (_::_))=>some (.p (.bool B),st)
  | .own s g _ t=>match st.obj s g with
   | some _=>if 0<t then some (.p (.bool B),st)else none
   | none=>none
  | _=>none
 | .cap x=>match st.ev x with
  | .nil=>some (.p (.int .i64 0),st)
  | _=>none
 | .clear r zero x=>match st.ev x with
  | .nil=>some (.bM [],st)
  | .own s g j t=>match st.obj s g with
   | some o=>if j+t<=o.es.length/\o.sz=r/\zero.sz=r then some (.bM [],st.setObj s g ⟨o.sz,o.es.take j++List.replicate t zero.ey++o.es.drop (j+t)⟩)else none
   | none=>none
  | _=>none
 | .fE r zero a x=>match st.ev a,vw (st.ev x)with
  | .nil,some n=>if 0<n/\n<=eL/\zero.sz=r/\0<r then some (.own d (st.site d).length 0 n,st.alloc d ⟨r,List.replicate n zero.ey⟩)else none
  | _,_=>none
 | .qK x i=>match st.ev x,vw (st.ev i)with
  | .p (.str s),some n=>match s[n]? with
   | some b=>some (.p (.int .u8 b.toNat),st)
   | none=>none
  | _,_=>none
 | .mr J zero x k=>match st.ev x,st.ev k with
  | .p (.mp _ E F),.p (.agg kc)=>if kA J kc=true/\E.all (sA J)=true then some (match oE kc E F with|some v=>.p v|none=>zero,st)else none
  | _,_=>none
 | .jY J zero x k=>match st.ev x,st.ev k with
  | .p (.mp _ E F),.p (.agg kc)=>if kA J kc=true/\E.all (sA J)=true then some (match oE kc E F with|some v=>.bM [.p v,.p (.bool true)]|none=>.bM [zero,.p (.bool false)],st)else none
  | _,_=>none
 | .raw _=>none
 | .bad=>none
mutual
inductive PRep (M:Nat->Option Obj):PV->Value->Prop
 | bool (b:Bool):PRep M (.bool b) (.bool b)
 | int (k:IntKind) (n:Int):PRep M (.int k n) (.int k n)
 | str (s:ByteArray):PRep M (.str s) (.string s)
 | aL:PRep M .aL .nilFunc
 | any (x:Value):x.oneCell'=true->PRep M .any x
 | nl (cap:Nat):PRep M .nl (.slice none 0 cap)
 | sle (a:Addr) (cap:Nat):PRep M .sle (.slice (some a) 0 cap)
 | fM (r:Nat):PRep M (.fM r) (.map (some r))
 | wZ (r:Nat):PRep M (.wZ r) (.pointer (some ⟨r,0,none⟩))
 | mp (r:Nat) (ks vs:List PV) (es:Array MapEntry) (clock:Nat):M r=some (.map es clock)->PReps M ks (es.toList.map (·.key))->PReps M vs (es.toList.map (·.val))->(es.toList.map (·.key)).Nodup ->
   (∀ e∈es.toList,e.born<clock)->(es.toList.map (·.born)).Nodup->PRep M (.mp r ks vs) (.map (some r))
 | rB (a:Option Addr) (cap:Nat):PRep M (.sl []) (.slice a 0 cap)
 | sl (es:List PV) (b o cap:Nat) (cur:Array Value) (T:TypeId) (fr:Nat × Nat) (sz:Nat) (vals:List Value) :
   M b=some (.cells cur T fr)->0<sz->(∀ e∈es,e.sz=sz)->(∀ c∈es.flatMap PV.cells,c.one=true)->PReps M (es.flatMap PV.cells) vals ->
   (∀ i v,vals[i]?=some v->cur[o+i]?=some v)->es.length<=cap->es.length<=maxLen->PRep M (.sl es) (.slice (some ⟨b,o,none⟩) es.length cap)
 | agg (cs:List PV) (vals:List Value):(∀ c∈cs,c.one=true)->PReps M cs vals->PRep M (.agg cs) (.agg vals.toArray)
 | fn (f:FuncId) (iF:List PV) (vals:List Value):PReps M iF vals->PRep M (.fn f iF) (.func (.func f) #[] vals.toArray)
 | ref (v:PV) (b o:Nat) (cur:Array Value) (T:TypeId) (fr:Nat × Nat) (vals:List Value) :
   M b=some (.cells cur T fr)->0<v.sz->(∀ c∈v.cells,c.one=true)->PReps M v.cells vals->(∀ i x,vals[i]?=some x->cur[o+i]?=some x) ->
   PRep M (.ref v) (.pointer (some ⟨b,o,none⟩))
 | bM (vs:List PV) (vals:List Value):PReps M vs vals->PRep M (.bM vs) (.tuple vals.toArray)
inductive PReps (M:Nat->Option Obj):List PV->List Value->Prop
 | nil:PReps M [] []
 | cons (v:PV) (x:Value) (vs:List PV) (xs:List Value):PRep M v x->PReps M vs xs->PReps M (v::vs) (x::xs)
end
structure Cz where
 M:Nat->Option Obj
 B:Nat->Nat->Option Nat
 cap:Nat->Nat->Nat
mutual
inductive aQ (Z:Cz) (st:St):AV->Value->Prop
 | p (v:PV) (x:Value):PRep Z.M v x->aQ Z st (.p v) x
 | nil:aQ Z st .nil (.slice none 0 0)
 | d' (s g:Nat) (o:bI):st.obj s g=some o->Z.B s g=none->aQ Z st (.own s g 0 0) (.slice none 0 0)
 | own (s g off len:Nat) (o:bI) (b:Nat) (ad:Addr) (c:Nat):st.obj s g=some o->Z.B s g=some b->(off=0->ad=⟨b,0,none⟩/\c=Z.cap s g) ->
   (0<len->ad=⟨b,off*o.sz,none⟩)->off+len<=o.es.length->len<=c->aQ Z st (.own s g off len) (.slice (some ad) len c)
 | eO (s g off len:Nat) (ad:Option Addr) (c:Nat):g<(st.site s).length->st.obj s g=none->aQ Z st (.own s g off len) (.slice ad len c)
 | ptr (s g ix off:Nat) (o:bI) (b:Nat):st.obj s g=some o->Z.B s g=some b->aQ Z st (.ptr s g ix off) (.pointer (some ⟨b,ix*o.sz+off,none⟩))
 | kP (s g ix off:Nat) (ad:Option Addr):g<(st.site s).length->st.obj s g=none->aQ Z st (.ptr s g ix off) (.pointer ad)
 | cp (v:PV) (vM off b o:Nat) (cur:Array Value) (T:TypeId) (fr:Nat × Nat) (vals:List Value) :
   Z.M b=some (.cells cur T fr)->0<vM->v.sz=vM->(∀ c∈v.cells,c.one=true)->PReps Z.M v.cells vals->(∀ i x,vals[i]?=some x->cur[o+i]?=some x) ->
   aQ Z st (.cp v vM off) (.pointer (some ⟨b,o+off,none⟩))
 | agg (cs:List AV) (vals:List Value):(∀ c∈cs,c.one=true)->aG Z st cs vals->aQ Z st (.agg cs) (.agg vals.toArray)
 | fn (f:FuncId) (iF:List AV) (vals:List Value):aG Z st iF vals->aQ Z st (.fn f iF) (.func (.func f) #[] vals.toArray)
 | bM (vs:List AV) (vals:List Value):aG Z st vs vals->aQ Z st (.bM vs) (.tuple vals.toArray)
 | skip:aQ Z st .skip Go.undef
 | undef (x:Value):aQ Z st .undef x
inductive aG (Z:Cz) (st:St):List AV->List Value->Prop
 | nil:aG Z st [] []
 | cons (v:AV) (x:Value) (vs:List AV) (xs:List Value):aQ Z st v x->aG Z st vs xs->aG Z st (v::vs) (x::xs)
end
structure oC (Z:Cz) (st:St) (w:World) (s g:Nat) (o:bI):Prop where
 pos:0<o.sz
 iI:∀ e∈o.es,e.sz=o.sz
 one:∀ c∈o.es.flatMap AV.cells,c.one=true
 x5:Z.B s g=none->o.es=[]
 bX:∀ b,Z.B s g=some b->∃ (cur:Array Value) (T:TypeId) (vals:List Value),w.heap[b]?=some (.cells cur T (0,0))/\aG Z st (o.es.flatMap AV.cells) vals /\
  (∀ (i:Nat) (v:Value),vals[i]?=some v->cur[i]?=some v)/\cur.size=Z.cap s g*o.sz/\o.es.length<=Z.cap s g/\Z.cap s g<=maxLen
structure Ctx where
 w0:World
 M0:Nat->Option Obj
 X0:Nat->Prop
 N:Nat
structure Keep (w0 w:World) (X:Nat->Prop):Prop where
 os:w.os=w0.os
 tape:w.tape=w0.tape
 output:w.output=w0.output
 drawn:w0.drawn<=w.drawn
 size:w0.heap.size<=w.heap.size
 bX:∀ b,b<w0.heap.size->¬ X b->w.heap[b]?=w0.heap[b]?
structure bG (K:Ctx) (Z:Cz) (st:St) (w:World):Prop where
 bT:∀ s g o,st.obj s g=some o->oC Z st w s g o
 inj:∀ s g s' g' o o' b,st.obj s g=some o->st.obj s' g'=some o'->Z.B s g=some b->Z.B s' g'=some b->s=s'/\g=g'
 mem:∀ b o,Z.M b=some o->w.heap[b]?=some o
 sep:∀ s g o b,st.obj s g=some o->Z.B s g=some b->Z.M b=none
 own:∀ s g o b,st.obj s g=some o->Z.B s g=some b->K.X0 b\/K.w0.heap.size<=b
 m0:∀ b o,K.M0 b=some o->Z.M b=some o
 eM:∀ b o,Z.M b=some o->K.M0 b=some o\/K.X0 b\/K.w0.heap.size<=b
 keep:Keep K.w0 w K.X0
structure aN (K:Ctx) (Z:Cz) (st:St) (w:World) (a:Act):Prop where
 aY:∀ t,aQ Z st (st.get t) (a.tmps.getD t Go.undef)
 defers:a.defers=[]
 size:a.tmps.size=K.N
 heap:bG K Z st w
structure cP (Z:Cz) (st:St) (Z':Cz) (st':St):Prop where
 M:∀ b o,Z.M b=some o->Z'.M b=some o
 len:∀ s,(st.site s).length<=(st'.site s).length
 dead:∀ s g,g<(st.site s).length->st.obj s g=none->st'.obj s g=none
 live:∀ s g o,st.obj s g=some o->st'.obj s g=none\/∃ o',st'.obj s g=some o'/\o'.sz=o.sz/\o'.es.length=o.es.length/\Z'.B s g=Z.B s g/\Z'.cap s g=Z.cap s g
def nQ{st:St}{s g:Nat}{o:bI}(h:st.obj s g=some o):g<(st.site s).length:=by
 unfold St.obj at h;obtain b|b:=pW g (st.site s).length
 .omega
 .grind
mutual
theorem PRep.mono{M M':Nat->Option Obj}(i:∀ b o,M b=some o->M' b=some o):∀ {v:PV} {x:Value},PRep M v x->PRep M' v x
 | _,_,.bool b=>.bool b
 | _,_,.int k n=>.int k n
 | _,_,.str s=>.str s
 | _,_,.aL=>.aL
 | _,_,.any x h=>.any x h
 | _,_,.nl c=>.nl c
 | _,_,.sle a c=>.sle a c
 | _,_,.fM r=>.fM r
 | _,_,.wZ r=>.wZ r
 | _,_,.mp r ks vs es clock m j l h3 p t=>.mp r ks vs es clock (i _ _ m) (PReps.mono i j) (PReps.mono i l) h3 p t
 | _,_,.rB a c=>.rB a c
 | _,_,.sl es b o cap cur T fr sz vals m j l h3 p t u y=>.sl es b o cap cur T fr sz vals (i _ _ m) j l h3 (PReps.mono i p) t u y
 | _,_,.agg cs vals j l=>.agg cs vals j (PReps.mono i l)
 | _,_,.fn f iF vals h=>.fn f iF vals (PReps.mono i h)
 | _,_,.ref v b o cur T fr vals m j l h3 p=>.ref v b o cur T fr vals (i _ _ m) j l (PReps.mono i h3) p
 | _,_,.bM vs vals h=>.bM vs vals (PReps.mono i h)
theorem PReps.mono{M M':Nat->Option Obj}(f:∀ b o,M b=some o->M' b=some o):∀ {v:List PV} {x:List Value},PReps M v x->PReps M' v x
 | _,_,.nil=>.nil
 | _,_,.cons v x vs xs h hs=>.cons v x vs xs (PRep.mono f h) (PReps.mono f hs)
end
mutual
theorem aQ.mono{Z Z':Cz}{st st':St}(h:cP Z st Z' st'):∀ {v:AV} {x:Value},aQ Z st v x->aQ Z' st' v x
 | _,_,.p v x hp=>.p v x (PRep.mono h.M hp)
 | _,_,.nil=>.nil
 | _,_,.d' s g o k m=>by
  obtain hd|⟨o',i,j,l,h3,r⟩:=h.live s g o k
  .exact .eO s g 0 0 none 0 (iL (nQ k) (h.len s)) hd
  .exact .d' s g o' i (h3.trans m)
 | _,_,.own s g off len o b ad c k m j l h3 r=>by
  obtain hd|⟨o',i,t,y,u,z⟩:=h.live s g o k
  .exact .eO s g off len _ _ (iL (nQ k) (h.len s)) hd
  .exact .own s g off len o' b ad c i (u.trans m) (by rw[z];exact j) (by rw[t];exact l) (by rw[y];exact h3) r
 | _,_,.eO s g off len ad c n hd=>.eO s g off len ad c (iL n (h.len s)) (h.dead s g n hd)
 | _,_,.ptr s g ix off o b k m=>by
  obtain hd|⟨o',i,t,y,u,z⟩:=h.live s g o k
  .exact .kP s g ix off _ (iL (nQ k) (h.len s)) hd
  .rw[<- t];exact .ptr s g ix off o' b i (u.trans m)
 | _,_,.kP s g ix off ad n hd=>.kP s g ix off ad (iL n (h.len s)) (h.dead s g n hd)
 | _,_,.cp v vM off b o cur T fr vals A j l h3 r B=>.cp v vM off b o cur T fr vals (h.M _ _ A) j l h3 (PReps.mono h.M r) B
 | _,_,.agg cs vals j l=>.agg cs vals j (aG.mono h l)
 | _,_,.fn f iF vals j=>.fn f iF vals (aG.mono h j)
 | _,_,.bM vs vals j=>.bM vs vals (aG.mono h j)
 | _,_,.skip=>.skip
 | _,_,.undef x=>.undef x
theorem aG.mono{Z Z':Cz}{st st':St}(h:cP Z st Z' st'):∀ {v:List AV} {x:List Value},aG Z st v x->aG Z' st' v x
 | _,_,.nil=>.nil
 | _,_,.cons v x vs xs b hs=>.cons v x vs xs (aQ.mono h b) (aG.mono h hs)
end
def cP.refl(Z:Cz)(st:St):cP Z st Z st :=
 ⟨λ_ _ h=>h,λ_=>dE _,λ_ _ _ h=>h,λ_ _ o h=>.inr ⟨o,h,rfl,rfl,rfl,rfl⟩⟩
def cP.trans{Z Z' i:Cz}{st st' f:St}(h:cP Z st Z' st')(k:cP Z' st' i f):cP Z st i f:=by
 refine⟨λb o e=>k.M b o (h.M b o e),λs=>dM (h.len s) (k.len s),λs g l hd=>k.dead s g (iL l (h.len s)) (h.dead s g l hd),λs g o m=>?_⟩;obtain hd|⟨o',j,r,t,u,x⟩:=h.live s g o m
 .exact .inl (k.dead s g (iL (nQ m) (h.len s)) hd)
 .obtain hd|⟨p,n,y,z,A,B⟩:=k.live s g o' j
  .grind
  .grind
theorem PReps.length{M:Nat->Option Obj}:∀ {vs:List PV} {xs:List Value},PReps M vs xs->xs.length=vs.length
 | _,_,.nil=>rfl
 | _,_,.cons _ _ _ _ _ h=>by simp[PReps.length h]
theorem PReps.append{M:Nat->Option Obj}:∀ {vs us:List PV} {xs b:List Value},PReps M vs xs->PReps M us b->PReps M (vs++us) (xs++b)
 | _,_,_,_,.nil,h=>h
 | _,_,_,_,.cons _ _ _ _ h hs,k=>.cons _ _ _ _ h (PReps.append hs k)
theorem PReps.drop{M:Nat->Option Obj}:∀ (n:Nat) {vs:List PV} {xs:List Value},PReps M vs xs->PReps M (vs.drop n) (xs.drop n)
 | 0,_,_,h=>by simpa using h
 | n+1,_,_,.nil=>by simpa using PReps.nil
 | n+1,_,_,.cons _ _ _ _ _ hs=>by simpa using PReps.drop n hs
theorem PReps.take{M:Nat->Option Obj}:∀ (n:Nat) {vs:List PV} {xs:List Value},PReps M vs xs->PReps M (vs.take n) (xs.take n)
 | 0,_,_,_=>by simpa using PReps.nil
 | n+1,_,_,.nil=>by simpa using PReps.nil
 | n+1,_,_,.cons _ _ _ _ h hs=>by simpa using PReps.cons _ _ _ _ h (PReps.take n hs)
theorem PReps.get{M:Nat->Option Obj}:∀ {vs:List PV} {xs:List Value} (i:Nat) (v:PV),PReps M vs xs->vs[i]?=some v->∃ x,xs[i]?=some x/\PRep M v x
 | _,_,i,v,.nil,h=>by simp at h
 | _,_,0,v,.cons u x _ _ h _,e=>by simp at e;subst e;exact⟨x,by simp,h⟩
 | _,_,i+1,v,.cons _ _ _ _ _ hs,e=>by simp at e;simpa using PReps.get i v hs e
theorem aG.length{Z:Cz}{st:St}:∀ {vs:List AV} {xs:List Value},aG Z st vs xs->xs.length=vs.length
 | _,_,.nil=>rfl
 | _,_,.cons _ _ _ _ _ h=>by simp[aG.length h]
theorem aG.append{Z:Cz}{st:St}:∀ {vs us:List AV} {xs b:List Value},aG Z st vs xs->aG Z st us b->aG Z st (vs++us) (xs++b)
 | _,_,_,_,.nil,h=>h
 | _,_,_,_,.cons _ _ _ _ h hs,k=>.cons _ _ _ _ h (aG.append hs k)
theorem aG.drop{Z:Cz}{st:St}:∀ (n:Nat) {vs:List AV} {xs:List Value},aG Z st vs xs->aG Z st (vs.drop n) (xs.drop n)
 | 0,_,_,h=>by simpa using h
 | n+1,_,_,.nil=>by simpa using aG.nil
 | n+1,_,_,.cons _ _ _ _ _ hs=>by simpa using aG.drop n hs
theorem aG.take{Z:Cz}{st:St}:∀ (n:Nat) {vs:List AV} {xs:List Value},aG Z st vs xs->aG Z st (vs.take n) (xs.take n)
 | 0,_,_,_=>by simpa using aG.nil
 | n+1,_,_,.nil=>by simpa using aG.nil
 | n+1,_,_,.cons _ _ _ _ h hs=>by simpa using aG.cons _ _ _ _ h (aG.take n hs)
theorem aG.get{Z:Cz}{st:St}:∀ {vs:List AV} {xs:List Value} (i:Nat) (v:AV),aG Z st vs xs->vs[i]?=some v->∃ x,xs[i]?=some x/\aQ Z st v x
 | _,_,i,v,.nil,h=>by simp at h
 | _,_,0,v,.cons u x _ _ h _,e=>by simp at e;subst e;exact⟨x,by simp,h⟩
 | _,_,i+1,v,.cons _ _ _ _ _ hs,e=>by simp at e;simpa using aG.get i v hs e
theorem aG.lZ{Z:Cz}{st:St}:∀ {vs:List PV} {xs:List Value},PReps Z.M vs xs->aG Z st (vs.map .p) xs
 | _,_,.nil=>.nil
 | _,_,.cons v x _ _ h hs=>.cons _ _ _ _ (.p v x h) (aG.lZ hs)
theorem aG.pq{Z:Cz}{st:St}:∀ {vs:List PV} {xs:List Value},aG Z st (vs.map .p) xs->PReps Z.M vs xs
 | [],_,.nil=>.nil
 | v::vs,_,.cons _ _ _ _ (.p _ _ h) hs=>.cons _ _ _ _ h (aG.pq hs)
theorem IH:∀ {cs:List AV} {ps:List PV},va cs=some ps->cs=ps.map .p
 | [],ps,h=>by simp[va]at h;subst h;rfl
 | .p v::r,ps,h=>by
  simp[va]at h;split at h
  .rename_i f b;cases h;rw[IH b];rfl
  .grind
def Q4(cs:List AV):(eQ cs).cells=cs:=by
 unfold eQ;split
 .rename_i b h;rw[IH h];rfl
 .rfl
def Pc(cs:List AV):(eQ cs).sz=if cs.length<=1 then 0 else cs.length:=by
 unfold eQ;split
 .rename_i b h;rw[IH h];simp[AV.sz,PV.sz]
 .rfl
def aQ.eQ{Z:Cz}{st:St}{cs:List AV}{vals:List Value}(b:∀ c∈cs,c.one=true)(h:aG Z st cs vals):aQ Z st (eQ cs) (.agg vals.toArray):=by
 unfold Ab.eQ;split
 .rename_i ps hp;have:=IH hp;subst this;exact .p _ _ (.agg _ _ (λc f=>by have:=b (.p c) (List.mem_map.2 ⟨c,f,rfl⟩);simpa[AV.one]using this) (aG.pq h))
 .exact .agg _ _ b h
def MV{x:Value}(h:x.oneCell'=true):x.cells = #[x]:=by cases x<;>first|rfl|simp[Value.oneCell']at h
def PRep.gF{M:Nat->Option Obj}{v:PV}{x:Value}(h:PRep M v x)(b:v.one=true):x.oneCell'=true:=by cases h<;>first|rfl|assumption|simp at b
def aQ.gF{Z:Cz}{st:St}{v:AV}{x:Value}(h:aQ Z st v x)(b:v.one=true):x.oneCell'=true:=by cases h<;>first|rfl|(rename_i hp;exact hp.gF b)|simp[AV.one]at b
def PV.cells_one{v:PV}(h:v.one=true):v.cells=[v]/\v.sz=1:=by cases v<;>first|exact⟨rfl,rfl⟩|simp[PV.one]at h
def AV.cells_one{v:AV}(h:v.one=true):v.cells=[v]/\v.sz=1:=by
 cases v<;>first|exact⟨rfl,rfl⟩|simp[AV.one]at h|skip
 rename_i v;cases v<;>first|exact⟨rfl,rfl⟩|simp[PV.one]at h
def PV.eI{v:PV}(h:0<v.sz):v.one=true\/∃ cs,v=.agg cs/\1<cs.length:=by
 cases v<;>first|exact .inl rfl|(simp[PV.sz]at h;done)|skip
 rename_i cs;refine .inr ⟨cs,rfl,?_⟩;simp[PV.sz]at h
 grind
def AV.eI{v:AV}(h:0<v.sz):v.one=true\/(∃ cs,v=.agg cs/\1<cs.length)\/∃ cs,v=.p (.agg cs)/\1<cs.length:=by
 cases v<;>first|exact .inl rfl|(simp[AV.sz]at h;done)|skip
 case p v =>
  obtain b|⟨cs,rfl,b⟩:=PV.eI (v:=v) h
  .exact .inl b
  .grind
 case agg cs =>
  refine .inr (.inl ⟨cs,rfl,?_⟩);simp[AV.sz]at h
  grind
def PRep.cells{M:Nat->Option Obj}{v:PV}{x:Value}(h:PRep M v x)(hs:0<v.sz) :
  PReps M v.cells x.cells.toList/\v.cells.length=v.sz/\(∀ c∈v.cells,c.one=true):=by
 obtain b|⟨cs,rfl,b⟩:=PV.eI hs
 .obtain⟨f,i⟩:=PV.cells_one b;rw[MV (h.gF b),f,i];exact⟨.cons _ _ _ _ h .nil,rfl,by simpa using b⟩
 .cases h with
  | agg _ vals j k=>exact⟨by simpa[PV.cells,Value.cells]using k,by simp[PV.cells,PV.sz];omega,by simpa[PV.cells]using j⟩
def aQ.cells{Z:Cz}{st:St}{v:AV}{x:Value}(h:aQ Z st v x)(hs:0<v.sz) :
  aG Z st v.cells x.cells.toList/\v.cells.length=v.sz/\(∀ c∈v.cells,c.one=true):=by
 obtain b|⟨cs,rfl,b⟩|⟨cs,rfl,b⟩:=AV.eI hs
 .obtain⟨k,l⟩:=AV.cells_one b;rw[MV (h.gF b),k,l];exact⟨.cons _ _ _ _ h .nil,rfl,by simpa using b⟩
 .cases h with
  | agg _ vals m n=>exact⟨by simpa[AV.cells,Value.cells]using n,by simp[AV.cells,AV.sz];omega,by simpa[AV.cells]using m⟩
 .cases h with
  | p _ _ hp =>
   obtain⟨a1,i,j⟩:=hp.cells (by simpa[AV.sz]using hs);refine⟨by simpa[AV.cells,PV.cells]using aG.lZ a1,by simpa[AV.cells,AV.sz,PV.cells]using i,?_⟩;intro c f;simp[AV.cells]at f;obtain⟨d,hd,rfl⟩:=f;exact j d hd
def PRep.ma{M:Nat->Option Obj}{v:PV}{xs:List Value}(hs:0<v.sz)(i:∀ c∈v.cells,c.one=true)(h:PReps M v.cells xs) :
  (v.one=true->∃ x,xs=[x]/\PRep M v x)/\(v.one=false->PRep M v (.agg xs.toArray)):=by
 refine⟨λf=>?_,λf=>?_⟩
 .rw[(PV.cells_one f).1]at h;cases h with
  | cons _ x _ _ j hn=>cases hn;exact⟨x,rfl,j⟩
 .obtain b|⟨cs,rfl,b⟩:=PV.eI hs
  .rw[f]at b;cases b
  .exact .agg _ _ i h
def aQ.ma{Z:Cz}{st:St}{v:AV}{xs:List Value}(hs:0<v.sz)(b:∀ c∈v.cells,c.one=true)(h:aG Z st v.cells xs) :
  (v.one=true->∃ x,xs=[x]/\aQ Z st v x)/\(v.one=false->aQ Z st v (.agg xs.toArray)):=by
 refine⟨λi=>?_,λi=>?_⟩
 .rw[(AV.cells_one i).1]at h;cases h with
  | cons _ x _ _ k hn=>cases hn;exact⟨x,rfl,k⟩
 .obtain f|⟨cs,rfl,f⟩|⟨cs,rfl,f⟩:=AV.eI hs
  .grind
  .exact .agg _ _ b h
  .refine .p _ _ (.agg _ _ (λc j=>?_) (aG.pq h));have:=b (.p c) (List.mem_map.2 ⟨c,j,rfl⟩);simpa[AV.one]using this
def Cz.bR(Z:Cz)(s g:Nat)(b:Option Nat)(c:Nat):Cz :=
 {Z with B:=λs' g'=>if s'=s/\g'=g then b else Z.B s' g',cap:=λs' g'=>if s'=s/\g'=g then c else Z.cap s' g' }
def vG(st:St)(d:Nat)(o:bI)(s:Nat):(st.alloc d o).site s=if s=d then st.site d++[some o]else st.site s:=by
 unfold St.alloc St.site;simp[look];by_cases h:d=s
 .grind
 .grind
def lD(st:St)(d:Nat)(o:bI)(s g:Nat):(st.alloc d o).obj s g=if s=d/\g=(st.site d).length then some o else st.obj s g:=by
 unfold St.obj;rw[vG];by_cases h:s=d
 .grind
 .grind
def St.kill(st:St)(s g:Nat):St:={ st with hp:=(s,CR (st.site s) g)::st.hp }
theorem I7(st:St)(s g:Nat)(r:List (Nat × Nat)):aI st ((s,g)::r)=aI (st.kill s g) r:=rfl
def Ge(st:St)(s g t:Nat):(st.kill s g).site t=if t=s then(st.site s).set g none else st.site t:=by
 unfold St.kill St.site;simp[look,CR];by_cases h:s=t
 .grind
 .grind
def BS(st:St)(s g b f:Nat):(st.kill s g).obj b f=if b=s/\f=g then none else st.obj b f:=by
 unfold St.obj;rw[Ge];by_cases h:b=s
 .grind
 .grind
def VE(st:St)(s g t:Nat):((st.kill s g).site t).length=(st.site t).length:=by
 rw[Ge];split
 .grind
 .rfl
def uI(st:St)(s g t:Nat)(o:bI):(st.setObj s g o).site t=if t=s then(st.site s).set g (some o)else st.site t:=by
 unfold St.setObj St.site;simp[look];by_cases h:s=t
 .grind
 .grind
def vF(st:St)(s g b f:Nat)(o:bI)(i:g<(st.site s).length):(st.setObj s g o).obj b f=if b=s/\f=g then some o else st.obj b f:=by
 unfold St.obj;rw[uI];by_cases h:b=s
 .grind
 .grind
def V9(st:St)(s g t:Nat)(o:bI):((st.setObj s g o).site t).length=(st.site t).length:=by
 rw[uI];split
 .grind
 .rfl
def cP.alloc(Z:Cz)(st:St)(d:Nat)(o:bI)(b:Option Nat)(c:Nat):cP Z st (Z.bR d (st.site d).length b c) (st.alloc d o):=by
 refine⟨λ_ _ h=>h,λs=>?_,λs g i hd=>?_,λs g o' f=>.inr ⟨o',?_,rfl,rfl,?_,?_⟩⟩
 .rw[vG];split
  .grind
  .simp
 .rw[lD,bD (by rintro⟨rfl,rfl⟩;omega)];exact hd
 .rw[lD,bD (by rintro⟨rfl,rfl⟩;have:=nQ f;omega)];exact f
 .simp only[Cz.bR];rw[bD (by rintro⟨rfl,rfl⟩;have:=nQ f;omega)]
 .simp only[Cz.bR];rw[bD (by rintro⟨rfl,rfl⟩;have:=nQ f;omega)]
def cP.kill(Z:Cz)(st:St)(s g:Nat):cP Z st Z (st.kill s g):=by
 refine⟨λ_ _ h=>h,λt=>by rw[VE];exact dE _,λs' g' f hd=>?_,λs' g' o' b=>?_⟩
 .rw[BS];split
  .rfl
  .omega
 .by_cases h:s'=s/\g'=g
  .left;rw[BS,aX h]
  .right;exact⟨o',by rw[BS,bD h];exact b,rfl,rfl,rfl,rfl⟩
def cP.setObj(Z:Cz)(st:St)(s g:Nat)(o o':bI)(i:st.obj s g=some o)(j:o'.sz=o.sz)(k:o'.es.length=o.es.length):cP Z st Z (st.setObj s g o'):=by
 have f:=nQ i;refine⟨λ_ _ h=>h,λt=>by rw[V9];exact dE _,λs' g' l hd=>?_,λs' g' o1 b=>.inr ?_⟩
 .rw[vF _ _ _ _ _ _ f,bD (by rintro⟨rfl,rfl⟩;rw[i]at hd;cases hd)];exact hd
 .by_cases h:s'=s/\g'=g
  .obtain⟨rfl,rfl⟩:=h;rw[i]at b;cases b;exact⟨o',by rw[vF _ _ _ _ _ _ f,aX ⟨rfl,rfl⟩],j,k,rfl,rfl⟩
  .exact⟨o1,by rw[vF _ _ _ _ _ _ f,bD h];exact b,rfl,rfl,rfl,rfl⟩
def oC.later{Z Z':Cz}{st st':St}{w w':World}{s g:Nat}{o:bI}(h:oC Z st w s g o)(hz:cP Z st Z' st')(j:Z'.B s g=Z.B s g)(i:Z'.cap s g=Z.cap s g)
  (r:∀ b,Z.B s g=some b->w'.heap[b]?=w.heap[b]?):oC Z' st' w' s g o:=by
 refine⟨h.pos,h.iI,h.one,λhn=>h.x5 (by rw[<- j];exact hn),λb f=>?_⟩;rw[j]at f;obtain⟨cur,T,vals,k,l,h3,m,n,p⟩:=h.bX b f;exact⟨cur,T,vals,by rw[r b f];exact k,aG.mono hz l,h3,by rw[i];exact m,by rw[i];exact n,by rw[i];exact p⟩
def Keep.alloc{w0 w:World}{X:Nat->Prop}(h:Keep w0 w X)(o:Obj):Keep w0 (w.alloc o) X :=
 ⟨h.os,h.tape,h.output,h.drawn,by simp;have:=h.size;omega,λb f i=>by rw[heap_alloc_old w o b (iL f h.size)];exact h.bX b f i⟩
def Keep.drew{w0 w:World}{X:Nat->Prop}(h:Keep w0 w X):Keep w0 w.drew X:=⟨h.os,h.tape,h.output,dM h.drawn (Nat.le_succ _),h.size,h.bX⟩
def Keep.setRow{w0 w:World}{X:Nat->Prop}(h:Keep w0 w X)(g:Nat)(cs:Array Value)(f:X g\/w0.heap.size<=g):Keep w0 (w.setRow g cs) X:=by refine⟨h.os,h.tape,h.output,h.drawn,by rw[setRow_size];exact h.size,λb j i=>?_⟩;rw[setRow_other w g b cs (by rintro rfl;obtain f|f:=f;exact i f;omega)];exact h.bX b j i
def bG.drew{K:Ctx}{Z:Cz}{st:St}{w:World}(h:bG K Z st w):bG K Z st w.drew :=
 ⟨λs g o b=>(h.bT s g o b).later (cP.refl Z st) rfl rfl (λ_ _=>rfl),h.inj,h.mem,h.sep,h.own,h.m0,h.eM,h.keep.drew⟩
def bG.lt{K:Ctx}{Z:Cz}{st:St}{w:World}(h:bG K Z st w){s g b:Nat}{o:bI}(i:st.obj s g=some o)(f:Z.B s g=some b):b<w.heap.size:=by
 obtain⟨cur,T,vals,j,_⟩:=(h.bT s g o i).bX b f
 grind
def bG.He{K:Ctx}{Z:Cz}{st:St}{w:World}(h:bG K Z st w){b:Nat}{o:Obj}(f:Z.M b=some o):b<w.heap.size :=
 (sH.1 (h.mem b o f)).1
def bG.alloc{K:Ctx}{Z:Cz}{st:St}{w:World}(h:bG K Z st w)(d:Nat)(o:bI)(cur:Array Value)(T:TypeId)(c:Nat)(vals:List Value)
  (u:0<o.sz) (y:∀ e∈o.es,e.sz=o.sz) (h3:∀ x∈o.es.flatMap AV.cells,x.one=true) (z:aG Z st (o.es.flatMap AV.cells) vals)
  (A:∀ (i:Nat) (v:Value),vals[i]?=some v->cur[i]?=some v) (C:cur.size=c*o.sz) (D:o.es.length<=c) (E:c<=maxLen) :
  bG K (Z.bR d (st.site d).length (some w.heap.size) c) (st.alloc d o) (w.alloc (.cells cur T)):=by
 have hz:=cP.alloc Z st d o (some w.heap.size) c;have hn:∀ {s g:Nat} {o':bI},st.obj s g=some o'->¬ (s=d/\g=(st.site d).length):=by rintro s g o' k ⟨rfl,rfl⟩;have:=nQ k;omega
 have p:∀ {s g:Nat},¬ (s=d/\g=(st.site d).length)->(Z.bR d (st.site d).length (some w.heap.size) c).B s g=Z.B s g:=λf=>by simp only[Cz.bR];rw[bD f]
 have F:∀ {s g:Nat},¬ (s=d/\g=(st.site d).length)->(Z.bR d (st.site d).length (some w.heap.size) c).cap s g=Z.cap s g:=λf=>by simp only[Cz.bR];rw[bD f]
 refine⟨λs g o' k=>?_,λs g s' g' o' t b k n j m=>?_,λb o' j=>?_,λs g o' b k j=>?_,λs g o' b k j=>?_,h.m0,h.eM,h.keep.alloc _⟩
 .rw[lD]at k;by_cases f:s=d/\g=(st.site d).length
  .rw[aX f]at k;cases k;obtain⟨rfl,rfl⟩:=f;refine⟨u,y,h3,λr=>(by simp[Cz.bR]at r),λb j=>?_⟩;simp only[Cz.bR,and_self,cH,cD]at j ⊢;subst j;exact⟨cur,T,vals,heap_alloc_new w _,aG.mono hz z,A,C,D,E⟩
  .rw[bD f]at k;exact(h.bT s g o' k).later hz (p f) (F f) (λb j=>heap_alloc_old w _ b (h.lt k j))
 .rw[lD]at k n;by_cases f:s=d/\g=(st.site d).length<;>by_cases l:s'=d/\g'=(st.site d).length
  .exact⟨f.1.trans l.1.symm,f.2.trans l.2.symm⟩
  .rw[bD l]at n;rw[p l]at m;obtain⟨rfl,rfl⟩:=f;simp only[Cz.bR,and_self,cH,cD]at j;have:=h.lt n m;omega
  .rw[bD f]at k;rw[p f]at j;obtain⟨rfl,rfl⟩:=l;simp only[Cz.bR,and_self,cH,cD]at m;have:=h.lt k j;omega
  .rw[bD f]at k;rw[bD l]at n;rw[p f]at j;rw[p l]at m;exact h.inj s g s' g' o' t b k n j m
 .rw[heap_alloc_old w _ b (h.He j)];exact h.mem b o' j
 .rw[lD]at k;by_cases f:s=d/\g=(st.site d).length
  .obtain⟨rfl,rfl⟩:=f;simp only[Cz.bR,and_self,cH,cD]at j;subst j;cases hm:Z.M w.heap.size with
   | none=>exact hm
   | some x=>have:=h.He hm;omega
  .rw[bD f]at k;rw[p f]at j;exact h.sep s g o' b k j
 .rw[lD]at k;by_cases f:s=d/\g=(st.site d).length
  .obtain⟨rfl,rfl⟩:=f;simp only[Cz.bR,and_self,cH,cD]at j;subst j;exact .inr h.keep.size
  .rw[bD f]at k;rw[p f]at j;exact h.own s g o' b k j
def bG.iQ{K:Ctx}{Z:Cz}{st:St}{w:World}(h:bG K Z st w)(d sz:Nat)(t:0<sz) :
  bG K (Z.bR d (st.site d).length none 0) (st.alloc d ⟨sz,[]⟩) w:=by
 have hz:=cP.alloc Z st d ⟨sz,[]⟩ none 0;have o:∀ {s g:Nat},¬ (s=d/\g=(st.site d).length)->(Z.bR d (st.site d).length none 0).B s g=Z.B s g:=λi=>by simp only[Cz.bR];rw[bD i]
 have u:∀ {s g:Nat},¬ (s=d/\g=(st.site d).length)->(Z.bR d (st.site d).length none 0).cap s g=Z.cap s g:=λi=>by simp only[Cz.bR];rw[bD i]
 have old:∀ {s g:Nat} {o':bI} {b:Nat},(st.alloc d ⟨sz,[]⟩).obj s g=some o'->(Z.bR d (st.site d).length none 0).B s g=some b->st.obj s g=some o'/\Z.B s g=some b:=by
  intro s g o' b f j;rw[lD]at f;by_cases i:s=d/\g=(st.site d).length
  .obtain⟨rfl,rfl⟩:=i;simp[Cz.bR]at j
  .rw[bD i]at f;rw[o i]at j;exact⟨f,j⟩
 refine⟨λs g o' f=>?_,λs g s' g' o' n b f m j l=>?_,h.mem,λs g o' b f j=>?_,λs g o' b f j=>?_,h.m0,h.eM,h.keep⟩
 .rw[lD]at f;by_cases i:s=d/\g=(st.site d).length
  .rw[aX i]at f;cases f;obtain⟨rfl,rfl⟩:=i;exact⟨t,by simp,by simp,λ_=>rfl,λb j=>by simp[Cz.bR]at j⟩
  .rw[bD i]at f;exact(h.bT s g o' f).later hz (o i) (u i) (λ_ _=>rfl)
 .obtain⟨a1,k⟩:=old f j;obtain⟨p,r⟩:=old m l;exact h.inj s g s' g' o' n b a1 p k r
 .obtain⟨a1,k⟩:=old f j;exact h.sep s g o' b a1 k
 .obtain⟨a1,k⟩:=old f j;exact h.own s g o' b a1 k
def bG.kill{K:Ctx}{Z:Cz}{st:St}{w:World}(h:bG K Z st w)(s g:Nat):bG K Z (st.kill s g) w:=by
 have old:∀ {s' g':Nat} {o':bI},(st.kill s g).obj s' g'=some o'->st.obj s' g'=some o':=by
  intro s' g' o' f;rw[BS]at f;split at f
  .grind
  .omega
 exact⟨λs' g' o' f=>(h.bT s' g' o' (old f)).later (cP.kill Z st s g) rfl rfl (λ_ _=>rfl),
  λ_ _ _ _ _ _ b a1 i=>h.inj _ _ _ _ _ _ b (old a1) (old i),h.mem,λ_ _ _ b a1=>h.sep _ _ _ b (old a1),λ_ _ _ b a1=>h.own _ _ _ b (old a1),h.m0,h.eM,h.keep⟩
def bG.setObj{K:Ctx}{Z:Cz}{st:St}{w:World}(h:bG K Z st w){s g:Nat}{o:bI}(l:st.obj s g=some o){b:Nat}(m:Z.B s g=some b)
  (es:List AV) (cur:Array Value) (vals:List Value) (E:∀ e∈es,e.sz=o.sz) (h3:∀ x∈es.flatMap AV.cells,x.one=true) (hl:es.length=o.es.length)
  (F:aG Z st (es.flatMap AV.cells) vals) (G:∀ (i:Nat) (v:Value),vals[i]?=some v->cur[i]?=some v) (H:cur.size=Z.cap s g*o.sz) :
  bG K Z (st.setObj s g ⟨o.sz,es⟩) (w.setRow b cur):=by
 have A:=nQ l;have hz:=cP.setObj Z st s g o ⟨o.sz,es⟩ l rfl hl;obtain⟨old,T,U,I,Q,R,S,J,L⟩:=(h.bT s g o l).bX b m;have t:∀ {s' g':Nat} {o':bI},(st.setObj s g ⟨o.sz,es⟩).obj s' g'=some o'->∃ o1,st.obj s' g'=some o1:=by
  intro s' g' o' y;rw[vF _ _ _ _ _ _ A]at y;split at y
  .rename_i n;obtain⟨rfl,rfl⟩:=n;exact⟨o,l⟩
  .exact⟨o',y⟩
 refine⟨λs' g' o' k=>?_,λs' g' z u o' M j a1 p C D=>?_,λj o' f=>?_,λs' g' o' j a1 p=>?_,λs' g' o' j a1 p=>?_,h.m0,h.eM,h.keep.setRow _ _ (h.own s g o b l m)⟩
 .rw[vF _ _ _ _ _ _ A]at k;by_cases n:s'=s/\g'=g
  .rw[if_pos n]at k;cases k;obtain⟨rfl,rfl⟩:=n;refine⟨(h.bT s' g' o l).pos,E,h3,λhn=>(by rw[m]at hn;cases hn),λj f=>?_⟩;rw[m]at f;cases f;exact⟨cur,T,vals,setRow_heap w b old cur T (0,0) I,aG.mono hz F,G,H,by simpa[hl]using J,L⟩
  .rw[bD n]at k;refine(h.bT s' g' o' k).later hz rfl rfl (λj f=>setRow_other w b j cur ?_);rintro rfl;exact n (h.inj s' g' s g o' o j k l f m)
 .obtain⟨o1,r⟩:=t a1;obtain⟨N,O⟩:=t p;exact h.inj s' g' z u o1 N j r O C D
 .rw[setRow_other w b j cur (by rintro rfl;rw[h.sep s g o j l m]at f;cases f)];exact h.mem j o' f
 .obtain⟨o1,r⟩:=t a1;exact h.sep s' g' o1 j r p
 .obtain⟨o1,r⟩:=t a1;exact h.own s' g' o1 j r p
def bG.move{K:Ctx}{Z:Cz}{st:St}{w:World}(h:bG K Z st w){s g:Nat}{o:bI}(r:st.obj s g=some o){b:Nat}(t:Z.B s g=some b)(d:Nat)
  (es:List AV) (cur:Array Value) (vals:List Value) (N:∀ e∈es,e.sz=o.sz) (h3:∀ x∈es.flatMap AV.cells,x.one=true) (hl:es.length<=Z.cap s g)
  (O:aG Z st (es.flatMap AV.cells) vals) (Q:∀ (i:Nat) (v:Value),vals[i]?=some v->cur[i]?=some v) (R:cur.size=Z.cap s g*o.sz) :
  bG K (Z.bR d ((st.kill s g).site d).length (some b) (Z.cap s g)) ((st.kill s g).alloc d ⟨o.sz,es⟩) (w.setRow b cur) /\
  cP Z st (Z.bR d ((st.kill s g).site d).length (some b) (Z.cap s g)) ((st.kill s g).alloc d ⟨o.sz,es⟩):=by
 have U:=cP.kill Z st s g;have hz:cP Z st (Z.bR d ((st.kill s g).site d).length (some b) (Z.cap s g)) ((st.kill s g).alloc d ⟨o.sz,es⟩):=U.trans (cP.alloc Z (st.kill s g) d ⟨o.sz,es⟩ (some b) (Z.cap s g));obtain⟨old,T,ov,V,Y,k3,k4,k5,W⟩:=(h.bT s g o r).bX b t;generalize hn:((st.kill s g).site d).length=n at *
 have C:∀ {s' g':Nat} {o':bI},((st.kill s g).alloc d ⟨o.sz,es⟩).obj s' g'=some o'->¬ (s'=d/\g'=n)->st.obj s' g'=some o'/\¬ (s'=s/\g'=g):=by
  intro s' g' o' j z;rw[lD,hn,bD z,BS]at j;split at j
  .cases j
  .rename_i M;exact⟨j,M⟩
 have y:∀ {s' g':Nat},¬ (s'=d/\g'=n)->(Z.bR d n (some b) (Z.cap s g)).B s' g'=Z.B s' g':=λj=>by simp only[Cz.bR];rw[bD j]
 have S:∀ {s' g':Nat},¬ (s'=d/\g'=n)->(Z.bR d n (some b) (Z.cap s g)).cap s' g'=Z.cap s' g':=λj=>by simp only[Cz.bR];rw[bD j]
 refine⟨⟨λs' g' o' A=>?_,λs' g' D u o' H l a1 p E F=>?_,λl o' f=>?_,λs' g' o' l a1 p=>?_,λs' g' o' l a1 p=>?_,h.m0,h.eM,h.keep.setRow _ _ (h.own s g o b r t)⟩,hz⟩
 .by_cases m:s'=d/\g'=n
  .rw[lD,hn,aX m]at A;cases A;obtain⟨rfl,rfl⟩:=m;refine⟨(h.bT s g o r).pos,N,h3,λJ=>(by simp[Cz.bR]at J),λl f=>?_⟩;simp only[Cz.bR,and_self,cH,cD]at f ⊢;subst f;exact⟨cur,T,vals,setRow_heap w b old cur T (0,0) V,aG.mono hz O,Q,R,hl,W⟩
  .obtain⟨G,z⟩:=C A m;refine(h.bT s' g' o' G).later hz (y m) (S m) (λl f=>setRow_other w b l cur ?_);rintro rfl;exact z (h.inj s' g' s g o' o l G r f t)
 .by_cases j:s'=d/\g'=n<;>by_cases k:D=d/\u=n
  .exact⟨j.1.trans k.1.symm,j.2.trans k.2.symm⟩
  .obtain⟨I,L⟩:=C p k;rw[y k]at F;obtain⟨rfl,rfl⟩:=j;simp only[Cz.bR,and_self,cH,cD]at E;subst E;exact absurd (h.inj D u s g H o b I r F t) L
  .obtain⟨I,L⟩:=C a1 j;rw[y j]at E;obtain⟨rfl,rfl⟩:=k;simp only[Cz.bR,and_self,cH,cD]at F;subst F;exact absurd (h.inj s' g' s g o' o b I r E t) L
  .obtain⟨I,_⟩:=C a1 j;obtain⟨X,_⟩:=C p k;rw[y j]at E;rw[y k]at F;exact h.inj s' g' D u o' H l I X E F
 .rw[setRow_other w b l cur (by rintro rfl;have:=h.sep s g o l r t;simp only[Cz.bR]at f;rw[this]at f;cases f)];exact h.mem l o' f
 .by_cases m:s'=d/\g'=n
  .obtain⟨rfl,rfl⟩:=m;simp only[Cz.bR,and_self,cH,cD]at p;subst p;exact h.sep s g o b r t
  .rw[y m]at p;exact h.sep s' g' o' l (C a1 m).1 p
 .by_cases m:s'=d/\g'=n
  .obtain⟨rfl,rfl⟩:=m;simp only[Cz.bR,and_self,cH,cD]at p;subst p;exact h.own s g o b r t
  .rw[y m]at p;exact h.own s' g' o' l (C a1 m).1 p
def AV.bO{v:AV}(h:0<v.sz):v.cells.length=v.sz:=by
 obtain b|⟨cs,rfl,b⟩|⟨cs,rfl,b⟩:=AV.eI h
 .rw[(AV.cells_one b).1,(AV.cells_one b).2];rfl
 .simp[AV.cells,AV.sz];omega
 .simp[AV.cells,AV.sz,PV.sz];omega
def PV.bO{v:PV}(h:0<v.sz):v.cells.length=v.sz:=by
 obtain b|⟨cs,rfl,b⟩:=PV.eI h
 .rw[(PV.cells_one b).1,(PV.cells_one b).2];rfl
 .simp[PV.cells,PV.sz];omega
def AV.oT(v:PV):(AV.p v).cells=v.cells.map .p:=by cases v<;>rfl
theorem AV.NQ(v:PV):(AV.p v).sz=v.sz:=rfl
theorem qU(es:List PV):(es.map AV.p).flatMap AV.cells=(es.flatMap PV.cells).map .p:=by
 induction es with
 | nil=>rfl
 | cons e es b=>simp only[jH,jG,sS,b,AV.oT]
theorem wE{α β : Type}(f : α -> List β)(sz:Nat):∀ (es:List α),(∀ e∈es,(f e).length=sz)->(es.flatMap f).length=es.length*sz
 | [],_=>by simp
 | e::es,h=>by rw[jG,gQ,h e (by simp),wE f sz es (λx b=>h x (by simp[b])),qH,Ah];omega
theorem FV{α β : Type}(f : α -> List β)(sz:Nat):∀ (es:List α) (i:Nat) (e : α),(∀ e∈es,(f e).length=sz)->es[i]?=some e->((es.flatMap f).drop (i*sz)).take sz=f e
 | [],_,_,_,h=>by simp at h
 | x::es,0,e,h,b=>by
  simp at b;subst b;rw[JK,Ae,jG,De (by rw[h x (by simp)];exact dE _),eZ (by rw[h x (by simp)];exact dE _)]
 | x::es,i+1,e,h,b=>by have j:=h x (by simp);rw[List.flatMap_cons,Nat.succ_mul,List.drop_append,List.drop_of_length_le (by omega),List.nil_append,j,Nat.add_sub_cancel];exact FV f sz es i e (λy k=>h y (by simp[k])) (by simpa using b)
def Kw{α β : Type}(f : α -> List β)(sz:Nat)(es:List α)(b:Nat)(e : α)(h:∀ e∈es,(f e).length=sz)(i:es[b]?=some e):b*sz+sz<=(es.flatMap f).length:=by rw[wE f sz es h,<- Nat.succ_mul];exact jU _ (iU.1 i).1
theorem Lc{α β : Type}(f : α -> List β)(sz:Nat):∀ (es:List α) (b:Nat) (e : α),(∀ e∈es,(f e).length=sz)->b<es.length ->
  (es.set b e).flatMap f=(es.flatMap f).take (b*sz)++f e++(es.flatMap f).drop (b*sz+sz)
 | [],_,_,_,h=>by simp at h
 | x::es,0,e,h,_=>by
  have i:=h x (by simp);simp only[G0,jG,JK,JJ,uP,sG];rw[E7 (by omega),xY (by omega),uP]
 | x::es,b+1,e,h,j=>by
  have i:=h x (by simp);have m:=Lc f sz es b e (λy k=>h y (by simp[k])) (by simpa using j);simp only[List.set_cons_succ,List.flatMap_cons,m,Nat.succ_mul]
  rw[List.take_append,eZ (l:=f x) (by omega),List.drop_append,xY (l:=f x) (by omega),i,GZ,
   show b*sz+sz+sz - sz=b*sz+sz from by omega]
  simp[sI]
def Hv{cur:Array Value}{vals:List Value}(h:∀ (i:Nat) (v:Value),vals[i]?=some v->cur[i]?=some v):∃ b,cur.toList=vals++b:=by
 refine⟨cur.toList.drop vals.length,?_⟩;apply E6;intro i;by_cases f:i<vals.length
 .rw[List.getElem?_append_left f,List.getElem?_eq_getElem f];have:=h i _ (List.getElem?_eq_getElem f);simpa using this
 .rw[qG (by omega),Cm]
  congr 1;omega
def CA{cur:List Value}{vals b:List Value}(h:cur=vals++b):∀ (i:Nat) (v:Value),vals[i]?=some v->cur.toArray[i]?=some v:=by intro i v f;subst h;have j:=(iU.1 f).1;simp only[List.getElem?_toArray];rw[wN j];exact f
section
variable {P:Program} {K:Ctx}
def vB(b o j:Nat):(⟨b,o,none⟩:Addr).add j=⟨b,o+j,none⟩:=by unfold Addr.add;split<;>simp_all
def ew(P:Program)(t:TypeId):Nat:=P.cellsOf t
def Ku:TypeDesc->Bool
 | .struct _ | .array _ _=>true
 | _=>false
def jI(P:Program)(t:TypeId):Bool :=
 match P.underlying t with
 | some d=>Ku d
 | _=>false
def tok(P:Program)(t:TypeId)(sz:Nat)(b:Bool):Bool :=
 (P.info? t).isSome&&(P.underlying t).isSome&&ew P t == sz&&jI P t == b&&(if b then 1<sz else sz == 1)
def F7{t:TypeId}{sz:Nat}{b:Bool}(h:tok P t sz b=true) :
  ∃ i d,P.info? t=some i/\i.size=sz/\P.underlying t=some d/\Ku d=b/\(b=true->1<sz)/\(b=false->sz=1):=by
 simp only[tok,Bool.and_eq_true,beq_iff_eq]at h;obtain⟨⟨⟨⟨l,m⟩,n⟩,o⟩,f⟩:=h;obtain⟨i,k⟩:=Option.isSome_iff_exists.1 l;obtain⟨d,j⟩:=Option.isSome_iff_exists.1 m;refine⟨i,d,k,by simpa[ew,Program.cellsOf,k]using n,j,?_,?_,?_⟩
 .rw[<- o];unfold jI;rw[j]
 .rintro rfl;simpa using f
 .rintro rfl;simpa using f
def Gd{t:TypeId}{d:TypeDesc}(w:World)(hd:P.underlying t=some d):(isAgg t).run P w=.ok (Ku d) w:=by unfold isAgg;rw[mW,run_underlying hd w];cases d<;>rfl
def CH{Z:Cz}{st:St}{t:TypeId}{sz:Nat}{n:Bool}{w:World}{b o k:Nat}{cur:Array Value}{T:TypeId}{r:Nat × Nat}{cs:List AV}{vals:List Value}
  (G:tok P t sz n=true) (C:w.heap[b]?=some (.cells cur T r)) (z:aG Z st cs vals) (H:∀ (i:Nat) (v:Value),vals[i]?=some v->cur[o+i]?=some v) (J:k+sz<=cs.length) :
  ∃ xs,aG Z st ((cs.drop k).take sz) xs/\xs.length=sz/\(n=true->(loadVar t ⟨b,o+k,none⟩).run P w=.ok (.agg xs.toArray) w) /\
   (n=false->∃ x,xs=[x]/\(loadVar t ⟨b,o+k,none⟩).run P w=.ok x w):=by
 obtain⟨i,d,B,F,y,l,L,D⟩:=F7 G;have E:=z.length;have f:∀ j v,((vals.drop k).take sz)[j]?=some v->w.cell? ((⟨b,o+k,none⟩:Addr).add j)=some v:=by
  intro j v m;rw[vB,cell_of_row w b _ cur T r C];rw[Cl]at m;split at m
  .rw[Cm]at m;rw[Dg];exact H _ _ m
  .cases m
 have h:((vals.drop k).take sz).length=sz:=by simp;omega
 refine⟨(vals.drop k).take sz,(z.drop k).take sz,h,λp=>?_,λp=>?_⟩
 .have s:=run_loadCells_list (P:=P) w ⟨b,o+k,none⟩ ((vals.drop k).take sz) f;rw[h]at s;subst p;simp[loadVar,Gd w y,l,sizeOf,typeInfo,B,F,s]
 .subst p;have A:=D rfl;subst A
  match I:(vals.drop k).take 1,h with
  | [x],_ =>
   refine⟨x,rfl,?_⟩;have u:=f 0 x (by rw[I];rfl);rw[vB,uO]at u;simp[loadVar,Gd w y,l,u]
def Wv{t:TypeId}{sz:Nat}{w:World}{b o:Nat}{cur:Array Value}{T:TypeId}{x:Value}{i:TypeInfo}(k:P.info? t=some i)(hs:i.size=sz)(l:w.heap[b]?=some (.cells cur T (0,0)))
  (h:x.cells.size=sz) (m:o+sz<=cur.size) (j:∀ v∈x.cells.toList,v.oneCell'=true) :
  (storeVar t ⟨b,o,none⟩ x).run P w=.ok () (w.setRow b (cur.toList.take o++x.cells.toList++cur.toList.drop (o+sz)).toArray):=by
 have f:=run_storeCells_at P b o T x.cells.toList 0 cur w l (by simp;omega) j;simp only[uO,TR,h]at f;simp[storeVar,sizeOf,typeInfo,k,hs,h,f]
def Good(P:Program)(K:Ctx)(Z:Cz)(st:St)(r:Result Next)(v:AV)(st':St):Prop :=
 ∃ n x w' Z',r=.ok n w'/\(n=.value x\/(n=.skip/\x=Go.undef))/\bG K Z' st' w'/\aQ Z' st' v x/\cP Z st Z' st'
def tR{Z:Cz}{st:St}{w:World}{v:AV}{x:Value}(h:bG K Z st w)(b:aQ Z st v x):Good P K Z st (.ok (.value x) w) v st :=
 ⟨_,x,w,Z,rfl,.inl rfl,h,b,cP.refl Z st⟩
theorem aQ.dK{Z:Cz}{st:St}{k:IntKind}{n:Int}{x:Value}(h:aQ Z st (.p (.int k n)) x):x=.int k n:=by cases h with|p _ _ hp=>cases hp;rfl
theorem aQ.fT{Z:Cz}{st:St}{b:Bool}{x:Value}(h:aQ Z st (.p (.bool b)) x):x=.bool b:=by cases h with|p _ _ hp=>cases hp;rfl
def aQ.cF{Z:Cz}{st:St}{v:PV}{x:Value}(h:aQ Z st (.p v) x):PRep Z.M v x:=by cases h with|p _ _ hp=>exact hp
def yD{v:AV}{n:Nat}(h:vw v=some n):∃ k,v=.p (.int k (n:Int)):=by
 unfold vw at h;split at h
 .rename_i k m;split at h
  .cases h;refine⟨k,?_⟩;congr;omega
  .cases h
 .cases h
theorem Gx{Z:Cz}{st:St}:∀ {vs:List AV} {xs:List Value},aG Z st vs xs->(∀ c∈vs,c.one=true)->∀ x∈xs,x.oneCell'=true
 | _,_,.nil,_=>by simp
 | _,_,.cons v x vs xs h j,f=>by
  intro y b;obtain rfl|b:=cI.1 b
  .exact h.gF (f v (by simp))
  .exact Gx j (λc i=>f c (by simp[i])) y b
end
def Hy:Value->Option AV
 | .bool b=>some (.p (.bool b))
 | .int k n=>some (.p (.int k n))
 | .string s=>some (.p (.str s))
 | .slice none 0 0=>some .nil
 | .nilFunc=>some (.p .aL)
 | .map none=>some (.p .any)
 | .pointer none=>some (.p .any)
 | _=>none
def DW:List Value->Option (List AV)
 | []=>some []
 | v::r=>match Hy v,DW r with
  | some a,some b=>some (a::b)
  | _,_=>none
def GG:Value->Option AV
 | .agg b=>(DW b.toList).map eQ
 | v=>Hy v
def dJ:Operand->Option bP
 | .tmp t=>some (.t t)
 | .const v=>(GG v).map .c
 | .func f=>some (.c (.p (.fn f [])))
 | .global _=>none
def oX:List Operand->Option (List bP)
 | []=>some []
 | x::r=>match dJ x,oX r with
  | some a,some b=>some (a::b)
  | _,_=>none
def oV(P:Program)(t:TypeId):Option AV:=(P.info? t).bind λi=>i.zero.bind GG
def BW:List (Nat × Nat)->List (Nat × Operand)->Option (List (Nat × Nat × bP))
 | _,[]=>some []
 | pl,(i,x)::r=>match pl[i]?,dJ x,BW pl r with
  | some (o,s),some y,some l=>some ((o,s,y)::l)
  | _,_,_=>none
def Ek:List (Nat × Operand)->Option (List (Nat × bP))
 | []=>some []
 | (i,x)::r=>match dJ x,Ek r with
  | some y,some l=>some ((i,y)::l)
  | _,_=>none
def BQ(P:Program)(t:TypeId):Option (Option IntKind) :=
 match P.underlying t with
 | some (.int k)=>some (some k)
 | some .bool=>some none
 | _=>none
def Gl(P:Program):List Field->Nat->Option (List (Option IntKind))
 | [],_=>some []
 | f::b,j=>if f.name ≠ "_" /\ f.offset=j then match BQ P f.type,Gl P b (j+1)with
  | some k,some l=>some (k::l)
  | _,_=>none
  else none
def LX(P:Program)(t:TypeId):Option (List (Option IntKind)) :=
 match P.underlying t with
 | some (.struct b)=>if P.stoodInHeld t=false/\P.eqGuardType P.depth t=false then Gl P b.toList 0 else none
 | some (.array n e)=>if (P.info? e).map (·.size)=some 1/\P.eqGuardType P.depth t=false then(BQ P e).map (List.replicate n)else none
 | _=>none
def uE:Option TypeDesc->Bool
 | some (.slice _)=>true
 | _=>false
def CD(b:BinOp)(x y:bP):Option c7 :=
 match b,y with
 | .eql,.c .nil=>some (.ic false x)
 | .neq,.c .nil=>some (.ic true x)
 | _,_=>none
def NJ:Option TypeDesc->Bool
 | some (.int _)=>true
 | _=>false
def EM(P:Program):List Field->Nat->Option (List IntKind)
 | [],_=>some []
 | f::b,j=>match P.underlying f.type with
  | some (.int q)=>if f.name ≠ "_" /\ f.offset=j/\P.cellsOf f.type=1 then(EM P b (j+1)).map (q :: ·)else none
  | _=>none
def Fx(P:Program)(kt:TypeId):Option (List IntKind) :=
 match P.underlying kt with
 | some (.array n e)=>match P.underlying e with
  | some (.int q)=>if P.cellsOf kt=n/\P.cellsOf e=1/\0<P.types.size then some (List.replicate n q)else none
  | _=>none
 | some (.struct b)=>if P.keyTypeAt 2 kt=true/\P.keyType kt=true/\P.tiled 2 kt=true/\P.cellsOf kt=b.size/\0<P.types.size then EM P b.toList 0 else none
 | _=>none
def CP(P:Program)(t:TypeId)(m k:Operand)(c:Bool):Option c7 :=
 match P.underlying t with
 | some (.map h f)=>(Fx P h).bind λb=>(dJ m).bind λm=>(dJ k).bind λk=>(oV P f).map λz=>if c=true then .jY b z m k else .mr b z m k
 | _=>none
def Ej(h:Fn)(first b:Array Operand):Option c7 :=
 match h with
 | .func f=>if first.size=0 then(oX b.toList).map λl=>.gT f l else none
 | _=>none
def Jj:Option Operand->Option (Option bP)
 | none=>some none
 | some x=>(dJ x).map some
def El(P:Program)(t:TypeId)(x:Operand)(f b mx:Option Operand):Option c7 :=
 match mx with
 | some _=>none
 | none=>match P.underlying t with
  | some (.slice e)=>if (P.info? e).isSome=true then(dJ x).bind λx=>(Jj f).bind λf=>(Jj b).map λb=>.slice (ew P e) x f b else none
  | _=>none
def B4(P:Program)(c:Callee)(h:Array TypeId)(as:List bP):Option c7 :=
 match c with
 | .value f=>match dJ f with
  | some (.c (.p (.fn g [])))=>some (.call g as)
  | some f=>some (.iv f as)
  | none=>none
 | .invoke _ _=>none
 | .builtin b=>match b with
  | .len=>match as with
   | [x]=>if uE (h[0]?.bind P.underlying)=true then some (.len x)else none
   | _=>none
  | .append=>match as,h[0]?,h[1]? with
   | [a,x],some t,some u=>match P.underlying t with
    | some (.slice e)=>if uE (P.underlying u)=true/\(oV P e).map AV.sz=some (ew P e)/\P.bytesOf e<=65536 then some (.append (ew P e) a x)
     else if NJ (P.underlying u)=true/\(oV P e).map AV.sz=some (ew P e)/\P.bytesOf e<=65536 then(oV P e).map λz=>.fE (ew P e) z a x else none
    | _=>none
   | _,_,_=>none
  | .cap=>match as with
   | [x]=>if uE (h[0]?.bind P.underlying)=true then some (.cap x)else none
   | _=>none
  | .clear=>match as,h[0]? with
   | [x],some t=>match P.underlying t with
    | some (.slice e)=>(oV P e).map λz=>.clear (ew P e) z x
    | _=>none
   | _,_=>none
  | .min=>some (.min as)
  | .max=>some (.max as)
  | _=>none
def yci(P:Program)(c:Call):Option c7:=(oX c.args.toList).bind λas=>B4 P c.callee c.argTypes as
def oD(P:Program)(j:Op):Option c7 :=
 match j with
 | .move x | .assign x=>(dJ x).map .mv
 | .pick c a b=>(dJ c).bind λc=>(dJ a).bind λa=>(dJ b).map λb=>.pick c a b
 | .alloc e=>(oV P e).map λz=>.alloc (ew P e) z
 | .box e x=>(dJ x).map λx=>.box (ew P e) x
 | .build t parts=>match P.underlying t with
  | some (.struct p)=>(p.toList.mapM λ(f:Field)=>(P.info? f.type).map λi=>(f.offset,i.size)).bind λG=>
   (oV P t).bind λz=>if 0<z.sz then(BW G parts.toList).map λl=>.build z.cells l else none
  | some (.array n e)=>(P.info? e).bind λA=>(oV P t).bind λz=>if 0<z.sz then
   (BW ((List.range n).map λi=>(i*A.size,A.size)) parts.toList).map λl=>.build z.cells l else none
  | _=>none
 | .buildSlice t n parts=>match P.underlying t with
  | some (.slice e)=>(oV P e).bind λz=>(Ek parts.toList).map λl=>.b4 (ew P e) z n l
  | _=>none
 | .load t a=>(dJ a).bind λa=>if tok P t (ew P t) (jI P t)then some (.load (ew P t) (jI P t) a)else none
 | .store t a x=>(dJ a).bind λa=>(dJ x).bind λx=>if (P.info? t).isSome=true then some (.store (ew P t) a x)else none
 | .nilCheck x=>(dJ x).map .bV
 | .binOp j t x y _=>(dJ x).bind λx=>(dJ y).bind λy=>match P.underlying t with
  | some (.int _)=>some (.dI j x y)
  | some .bool=>some (.gJ j x y)
  | some (.slice _)=>CD j x y
  | _=>(LX P t).map λD=>.j' D j x y
 | .unOp j _ x=>(dJ x).bind λx=>match j with
  | .not=>some (.not x)
  | .neg=>some (.neg x)
  | .xor=>some (.tA x)
  | _=>none
 | .convert u r x=>(dJ x).bind λx=>match P.underlying u,P.underlying r with
  | some _,some (.int k)=>some (.conv k x)
  | _,_=>none
 | .makeFunc B first o=>Ej B first o
 | .makeSlice t l c=>match P.underlying t with
  | some (.slice e)=>(dJ l).bind λl=>(dJ c).bind λc=>(oV P e).bind λz=>if P.bytesOf e<=65536 then some (.cM (ew P e) z l c)else none
  | _=>none
 | .slice t x E C F=>El P t x E C F
 | .fieldAddr s x f=>match P.underlying s with
  | some (.struct p)=>match p[f]? with
   | some h=>if 0<ew P h.type then(dJ x).map λx=>.iP h.offset x else none
   | none=>none
  | _=>none
 | .field s x f=>match P.underlying s with
  | some (.struct p)=>match p[f]? with
   | some h=>if tok P h.type (ew P h.type) (jI P h.type)then(dJ x).map λx=>.field h.offset (ew P h.type) (jI P h.type) x else none
   | none=>none
  | _=>none
 | .indexAddr t x i=>match P.underlying t with
  | some (.slice e)=>if (P.info? e).isSome then(dJ x).bind λx=>(dJ i).map λi=>.cG (ew P e) x i else none
  | some (.array n e)=>if (P.info? e).isSome then(dJ x).bind λx=>(dJ i).map λi=>.cB n (ew P e) x i else none
  | _=>none
 | .index t x i=>match P.underlying t with
  | some (.array n e)=>if tok P e (ew P e) (jI P e)then(dJ x).bind λx=>(dJ i).map λi=>.idx n (ew P e) (jI P e) x i else none
  | some .string=>(dJ x).bind λx=>(dJ i).map λi=>.qK x i
  | _=>none
 | .extract x i=>(dJ x).map λx=>.extract x i
 | .call c=>yci P c
 | .lookup t m k c=>CP P t m k c
 | .makeMap .. | .mapUpdate .. | .range .. | .next .. | .entry .. =>some (.raw j)
 | .makeInterface .. | .panic .. =>some .bad
 | _=>none
section
variable {P:Program} {K:Ctx} {Z:Cz} {st st':St} {w:World} {a:Act} {orc:Option bJ} {d:Nat} {v:AV}
def PH{x:Value}{v:AV}(h:Hy x=some v):aQ Z st v x/\v.one=true:=by unfold Hy at h;split at h<;>first|(cases h;exact⟨.p _ _ (.any _ rfl),rfl⟩)|(cases h;exact⟨.p _ _ (by constructor),rfl⟩)|(cases h;exact⟨.nil,rfl⟩)|cases h
theorem PI:∀ {xs:List Value} {vs:List AV},DW xs=some vs->aG Z st vs xs/\∀ c∈vs,c.one=true
 | [],vs,h=>by simp[DW]at h;subst h;exact⟨.nil,by simp⟩
 | x::xs,vs,h=>by
  simp[DW]at h;split at h
  .rename_i a b l m;cases h;obtain⟨f,i⟩:=PH (Z:=Z) (st:=st) l;obtain⟨j,k⟩:=PI m;exact⟨.cons _ _ _ _ f j,by simpa using ⟨i,k⟩⟩
  .grind
def O1{x:Value}{v:AV}(h:GG x=some v):aQ Z st v x:=by
 unfold GG at h;split at h
 .rename_i f;cases b:DW f.toList with
  | none=>simp[b]at h
  | some k =>
   simp[b]at h;subst h;obtain⟨i,j⟩:=PI (Z:=Z) (st:=st) b;simpa using aQ.eQ j i
 .exact(PH h).1
theorem zX{t:TypeId}{z:AV}(h:oV P t=some z):∃ i x,P.info? t=some i/\i.zero=some x/\∀ (Z:Cz) (st:St),aQ Z st z x:=by
 unfold oV at h;cases b:P.info? t with
 | none=>simp[b]at h
 | some i =>
  cases f:i.zero with
  | none=>simp[b,f]at h
  | some x=>simp[b,f]at h;exact⟨i,x,rfl,f,λZ st=>O1 h⟩
theorem fH{x:Operand}{y:bP}(h:dJ x=some y)(hs:aN K Z st w a):aQ Z st (st.ev y) (a.eval x):=by
 cases x with
 | tmp t=>simp[dJ]at h;subst h;exact hs.aY t
 | const v =>
  simp[dJ]at h;cases b:GG v with
  | none=>simp[b]at h
  | some u=>simp[b]at h;subst h;exact O1 b
 | global g=>simp[dJ]at h
 | func f=>simp[dJ]at h;subst h;exact .p _ _ (.fn f [] [] .nil)
theorem CJ:∀ {xs:List Operand} {b:List bP},oX xs=some b->aN K Z st w a->aG Z st (b.map st.ev) (xs.map a.eval)
 | [],b,h,_=>by simp[oX]at h;subst h;exact .nil
 | x::xs,b,h,f=>by
  simp[oX]at h;split at h
  .rename_i y l j i;cases h;exact .cons _ _ _ _ (fH j f) (CJ i f)
  .grind
theorem MY{e:AV}{xs:List Value}{sz:Nat}{b:Bool}(hs:e.sz=sz)(l:b=true->1<sz)(hn:b=false->sz=1)(i:∀ c∈e.cells,c.one=true)(h:aG Z st e.cells xs) :
  (b=true->aQ Z st e (.agg xs.toArray))/\(b=false->∃ x,xs=[x]/\aQ Z st e x):=by
 refine⟨λf=>?_,λf=>?_⟩
 .have:=l f;refine(aQ.ma (by omega) i h).2 ?_;cases m:e.one with
  | false=>rfl
  | true=>have:=(AV.cells_one m).2;omega
 .have:=hn f;refine(aQ.ma (by omega) i h).1 ?_;obtain j|⟨k,rfl,j⟩|⟨k,rfl,j⟩:=AV.eI (v:=e) (by omega)
  .omega
  .rw[AV.sz,bD (by omega)]at hs;omega
  .rw[AV.sz,PV.sz,bD (by omega)]at hs;omega
theorem B5(t:TypeId)(ad:Addr):(Instr.loadAt t (.pointer (some ad))).run P w=(loadVar t ad).run P w:=rfl
theorem Vs(t:TypeId)(ad:Addr)(x:Value):(Instr.storeAt t (.pointer (some ad)) x).run P w=(storeVar t ad x).run P w:=rfl
def uH{s g:Nat}{o:bI}(h:st.obj s g=some o)(b:st.obj s g=none):False:=by simp_all
theorem BV{s g k off:Nat}{o:bI}{x:Value}(h:aQ Z st (.ptr s g k off) x)(j:st.obj s g=some o):∃ b,Z.B s g=some b/\x=.pointer (some ⟨b,k*o.sz+off,none⟩):=by
 cases h with
 | ptr _ _ _ _ l b i f=>rw[j]at i;cases i;exact⟨b,f,rfl⟩
 | kP _ _ _ _ _ _ f=>exact(uH j f).elim
def yb3{t:TypeId}{x:Operand}{y:bP}(hx:dJ x=some y)(V:tok P t (ew P t) (jI P t)=true)(hs:aN K Z st w a)
  (j:bY orc st d (.load (ew P t) (jI P t) y)=some (v,st')) :
  Good P K Z st ((do pure (Next.value (<- Instr.loadAt t (a.eval x))):Sem Next).run P w) v st':=by
 have hr:=fH hx hs;obtain⟨_,_,_,_,_,_,af,E⟩:=F7 V;generalize av:ew P t=sz at *
 generalize au:jI P t=ag at *
 generalize a.eval x=X at hr ⊢;simp only[bY]at j;split at j
 .rename_i s g W f M;rw[M]at hr;split at j
  .rename_i o ho;obtain⟨b,hb,F⟩:=BV hr ho;have Y:=hs.heap.bT s g o ho;obtain⟨ad,T,B,k1,k2,k3,k4,k5,k6⟩:=Y.bX b hb;split at j
   .rename_i e O;have L:∀ e∈o.es,(AV.cells e).length=o.sz:=λe j=>by rw[AV.bO (by rw[Y.iI e j];exact Y.pos),Y.iI e j]
    have A:=FV AV.cells o.sz o.es W e L O;have R:=Kw AV.cells o.sz o.es W e L O;have J:e∈o.es:=List.mem_of_getElem? O;have H:∀ c∈e.cells,c.one=true:=λc n=>Y.one c (List.mem_flatMap.2 ⟨e,J,n⟩);have Q:∀ (i:Nat) (v:Value),B[i]?=some v->ad[0+i]?=some v:=by simpa using k3
    split at j
    .rename_i n;obtain⟨rfl,rfl⟩:=n;simp only[cD,c5]at j;obtain⟨rfl,rfl⟩:=j;obtain⟨xs,l,h2,m,D⟩:=CH (P:=P) (Z:=Z) (st:=st) (k:=W*o.sz) (o:=0) V k1 k2 Q R;rw[A]at l;obtain⟨r1,r2⟩:=MY (Y.iI e J) af E H l;cases ag with
     | true=>have m:=m rfl;rw[F];simp only[sG,uO]at m ⊢;simp only[mW,B5,m,qF,oJ];exact tR hs.heap (r1 rfl)
     | false =>
      obtain⟨x1,I,G⟩:=D rfl;obtain⟨x2,C,e4⟩:=r2 rfl;rw[I]at C;cases C;rw[F];simp only[sG,uO]at G ⊢;simp only[mW,B5,G,qF,oJ];exact tR hs.heap e4
    .split at j
     .rename_i u h;simp only[cD,c5]at j;obtain⟨rfl,rfl⟩:=j;have aq:e.cells.length=o.sz:=L e J;cases ag with
      | true =>
       simp only[AV.yO,cH]at h;split at h
       .rename_i hl;cases h;have hk:f+sz<=e.cells.length:=by have:=hl.1;have:=hl.2;simp at *;omega
        obtain⟨xs,l,h2,m,D⟩:=CH (P:=P) (Z:=Z) (st:=st) (k:=W*o.sz+f) (o:=0) V k1 k2 Q (by omega);have I:((o.es.flatMap AV.cells).drop (W*o.sz+f)).take sz=(e.cells.drop f).take sz:=by
         rw[<- A,JI,uQ,GY]
         congr 1;omega
        rw[I]at l;have m:=m rfl;rw[F];simp only[sG]at m;simp only[mW,B5,m,qF,oJ];exact tR hs.heap (aQ.eQ (λc n=>H c (kD (iC n))) l)
       .cases h
      | false =>
       have U:=E rfl;subst U;simp only[AV.yO,cH,gP,fQ]at h;have hk:f+1<=e.cells.length:=by
        obtain R|N:=pW f e.cells.length
        .omega
        .rw[xY N]at h;simp at h
       obtain⟨xs,l,h2,m,D⟩:=CH (P:=P) (Z:=Z) (st:=st) (k:=W*o.sz+f) (o:=0) V k1 k2 Q (by omega);have I:((o.es.flatMap AV.cells).drop (W*o.sz+f)).take 1=(e.cells.drop f).take 1:=by
        rw[<- A,JI,uQ,GY]
        congr 1;omega
       rw[I]at l;obtain⟨x1,G,C⟩:=D rfl;subst G;rw[F];simp only[sG]at C;simp only[mW,B5,C,qF,oJ];refine tR hs.heap ?_;cases z:(e.cells.drop f).take 1 with
       | nil=>rw[z]at h;simp at h
       | cons c r =>
        rw[z]at h l;simp at h;subst h;cases l with|cons _ _ _ _ hx _=>exact hx
     .cases j
   .cases j
  .cases j
 .rename_i pv ao f M;rw[M]at hr;cases hr with
  | cp _ _ _ b o ad T fr B m0 m1 m2 m3 m4 m5 =>
   have hm:=hs.heap.mem b _ m0;have S:aG Z st (pv.cells.map .p) B:=aG.lZ m4;have ap:pv.cells.length=ao:=by rw[PV.bO (by omega)];exact m2
   split at j
   .rename_i n;obtain⟨rfl,al⟩:=n;simp only[cD,c5]at j;obtain⟨rfl,rfl⟩:=j;obtain⟨xs,l,h2,m,D⟩:=CH (P:=P) (Z:=Z) (st:=st) (k:=0) (o:=o) V hm S m5 (by simp;omega);rw[Ae,eZ (by simp;omega),<- AV.oT]at l;obtain⟨r1,r2⟩:=MY (e:=.p pv) (sz:=sz) (by rw[AV.NQ,m2,al]) af E (by rw[AV.oT];intro c n;simp at n;obtain⟨q,hq,rfl⟩:=n;exact m3 q hq) l;cases ag with
    | true=>simp only[mW,B5,m rfl,qF,oJ];exact tR hs.heap (r1 rfl)
    | false =>
     obtain⟨x1,I,G⟩:=D rfl;obtain⟨x2,C,e4⟩:=r2 rfl;rw[I]at C;cases C;simp only[mW,B5,G,qF,oJ];exact tR hs.heap e4
   .split at j
    .rename_i u h;simp only[cD,c5]at j;obtain⟨rfl,rfl⟩:=j;cases ag with
     | true =>
      simp only[PV.yO,cH]at h;split at h
      .rename_i hl;cases h;have hk:f+sz<=pv.cells.length:=by have:=hl.1;have:=hl.2;simp at *;omega
       obtain⟨xs,l,h2,m,D⟩:=CH (P:=P) (Z:=Z) (st:=st) (k:=f) (o:=o) V hm S m5 (by simpa using hk);simp only[Sem.run_bind,B5,m rfl,Result.andThen_ok,Sem.run_pure];rw[<- List.map_drop,<- List.map_take]at l;exact tR hs.heap (.p _ _ (.agg _ _ (λc n=>m3 c (List.mem_of_mem_drop (List.mem_of_mem_take n))) (aG.pq l)))
      .cases h
     | false =>
      have U:=E rfl;subst U;simp only[PV.yO,cH,gP,fQ]at h;have hk:f+1<=pv.cells.length:=by
       obtain R|N:=pW f pv.cells.length
       .omega
       .rw[xY N]at h;simp at h
      obtain⟨xs,l,h2,m,D⟩:=CH (P:=P) (Z:=Z) (st:=st) (k:=f) (o:=o) V hm S m5 (by simpa using hk);obtain⟨x1,G,C⟩:=D rfl;subst G;simp only[Sem.run_bind,B5,C,Result.andThen_ok,Sem.run_pure];refine tR hs.heap ?_;rw[<- List.map_drop,<- List.map_take]at l;have l:=aG.pq l;cases z:(pv.cells.drop f).take 1 with
      | nil=>rw[z]at h;simp at h
      | cons c r =>
       rw[z]at h l;simp at h;subst h;cases l with|cons _ _ _ _ hx _=>exact .p _ _ hx
    .cases j
 .cases j
end
section
variable {P:Program} {K:Ctx} {Z Z':Cz} {st st':St} {w w':World} {a:Act} {orc:Option bJ} {d:Nat} {v:AV}
def tN{s:Sem Value}{x:Value}(f:s.run P w=.ok x w')(b:bG K Z' st' w')(h:aQ Z' st' v x)(i:cP Z st Z' st') :
  Good P K Z st ((do pure (Next.value (<- s)):Sem Next).run P w) v st':=by
 simp only[mW,f,qF,oJ];exact⟨_,x,w',Z',rfl,.inl rfl,b,h,i⟩
def iH{s:Sem Value}{x:Value}(b:s.run P w=.ok x w)(hs:aN K Z st w a)(f:aQ Z st v x) :
  Good P K Z st ((do pure (Next.value (<- s)):Sem Next).run P w) v st:=tN b hs.heap f (cP.refl Z st)
def Zq{s:Sem Unit}(f:s.run P w=.ok () w')(b:bG K Z' st' w')(h:cP Z st Z' st') :
  Good P K Z st ((do s;pure Next.skip:Sem Next).run P w) .undef st':=by
 simp only[mW,f,qF,oJ];exact⟨_,Go.undef,w',Z',rfl,.inr ⟨rfl,rfl⟩,b,.undef _,h⟩
def T6{x:Operand}{y:bP}(f:dJ x=some y)(hs:aN K Z st w a)(b:bY orc st d (.mv y)=some (v,st')) :
  Good P K Z st ((pure (Next.value (a.eval x)):Sem Next).run P w) v st':=by
 simp only[bY,cD,c5]at b;obtain⟨rfl,rfl⟩:=b;exact tR hs.heap (fH f hs)
def yb1{c x y:Operand}{h i j:bP}(m:dJ c=some h)(n:dJ x=some i)(o:dJ y=some j)(hs:aN K Z st w a)
  (b:bY orc st d (.pick h i j)=some (v,st')) :
  Good P K Z st ((do pure (Next.value (if <- asBool (a.eval c)then a.eval x else a.eval y)):Sem Next).run P w) v st':=by
 have f:=fH m hs;have k:=fH n hs;have l:=fH o hs;simp only[bY]at b;split at b
 .rename_i e;rw[e]at f;rw[f.fT];simp only[cD,c5]at b;obtain⟨rfl,rfl⟩:=b;simp only[asBool,mW,oJ,qF,cH];exact tR hs.heap k
 .rename_i e;rw[e]at f;rw[f.fT];simp only[cD,c5]at b;obtain⟨rfl,rfl⟩:=b;simp only[asBool,mW,oJ,qF];exact tR hs.heap l
 .cases b
def Te{sz:Nat}{x:AV}{X:Value}{e:TypeId}(hs:aN K Z st w a)(j:aQ Z st x X)(b:x.sz=sz)(hp:0<sz) :
  ∃ Z',(newVar e X).run P w=.ok ⟨w.heap.size,0,none⟩ (w.alloc (.cells X.cells e))/\bG K Z' (st.alloc d ⟨sz,[x]⟩) (w.alloc (.cells X.cells e)) /\
   aQ Z' (st.alloc d ⟨sz,[x]⟩) (.ptr d (st.site d).length 0 0) (.pointer (some ⟨w.heap.size,0,none⟩))/\cP Z st Z' (st.alloc d ⟨sz,[x]⟩):=by
 obtain⟨f,k,h⟩:=j.cells (by omega)
 have i:=hs.heap.alloc d ⟨sz,[x]⟩ X.cells e 1 X.cells.toList hp (by simpa using b) (by simpa using h) (by simpa using f) (by simp)
  (by have:=f.length;simp at this;simp;omega) (by simp) (by simp[maxLen])
 refine⟨_,by simp[newVar,newRow],i,?_,cP.alloc _ _ _ _ _ _⟩;have:=aQ.ptr (Z:=Z.bR d (st.site d).length (some w.heap.size) 1) (st:=st.alloc d ⟨sz,[x]⟩) d (st.site d).length 0 0 ⟨sz,[x]⟩ w.heap.size (by rw[lD,if_pos ⟨rfl,rfl⟩]) (by simp[Cz.bR]);simpa using this
theorem W5{e:TypeId}{z:AV}(p:oV P e=some z)(hs:aN K Z st w a)(b:bY orc st d (.alloc (ew P e) z)=some (v,st')) :
  Good P K Z st ((do pure (Next.value (<- Instr.alloc e true (.tuple #[]))):Sem Next).run P w) v st':=by
 obtain⟨i,x,n,f,o⟩:=zX p;simp only[bY]at b;split at b
 .rename_i h;simp only[cD,c5]at b;obtain⟨rfl,rfl⟩:=b;obtain⟨Z',j,k,l,m⟩:=Te (P:=P) (e:=e) (d:=d) hs (o Z st) h.1 h.2;exact tN (by simp[Instr.alloc,zeroValue,typeInfo,n,f,j]) k l m
 .cases b
theorem yg1{e:TypeId}{x:Operand}{y:bP}(m:dJ x=some y)(hs:aN K Z st w a)(b:bY orc st d (.box (ew P e) y)=some (v,st')) :
  Good P K Z st ((do pure (Next.value (<- Instr.box e (a.eval x))):Sem Next).run P w) v st':=by
 have l:=fH m hs;simp only[bY]at b;split at b
 .rename_i f;simp only[cD,c5]at b;obtain⟨rfl,rfl⟩:=b;obtain⟨Z',h,i,j,k⟩:=Te (P:=P) (e:=e) (d:=d) hs l f.1 f.2;exact tN (by simp[Instr.box,h]) i j k
 .cases b
def Xf{t:TypeId}{p x:Operand}{q y:bP}(hp:dJ p=some q)(hx:dJ x=some y)(ht:(P.info? t).isSome=true)(hs:aN K Z st w a)
  (m:bY orc st d (.store (ew P t) q y)=some (v,st')) :
  Good P K Z st ((do Instr.storeAt t (a.eval p) (a.eval x);pure Next.skip:Sem Next).run P w) v st':=by
 have hr:=fH hp hs;have hy:=fH hx hs;obtain⟨i,hi⟩:=Ck.1 ht;have ap:i.size=ew P t:=by simp[ew,Program.cellsOf,hi]
 generalize ew P t=sz at *
 simp only[bY]at m;generalize a.eval p=X at hr ⊢;generalize a.eval x=Y at hy ⊢;generalize st.ev y=C at *
 split at m
 .rename_i s g j f al;rw[al]at hr;split at m
  .rename_i o ho;obtain⟨b,hb,W⟩:=BV hr ho;have H:=hs.heap.bT s g o ho;obtain⟨k,T,l,k1,k2,k3,k4,k5,k6⟩:=H.bX b hb;split at m
   .rename_i e F;have r:∀ e∈o.es,(AV.cells e).length=o.sz:=λe m=>by rw[AV.bO (by rw[H.iI e m];exact H.pos),H.iI e m]
    have U:=FV AV.cells o.sz o.es j e r F;have bk:=Kw AV.cells o.sz o.es j e r F;have E:e∈o.es:=wM F;have aw:∀ c∈e.cells,c.one=true:=λc M=>H.one c (kC.2 ⟨e,E,M⟩);have Q:j<o.es.length:=(iU.1 F).1;obtain⟨L,B⟩:=Hv k3;have bo:=k2.length
    have af:∀ (G:AV) (f:Nat),0<C.sz->G.sz=o.sz->G.cells=e.cells.take f++C.cells++e.cells.drop (f+C.cells.length)->f+C.cells.length<=e.cells.length->C.cells.length=sz ->
      Good P K Z st ((do Instr.storeAt t (.pointer (some ⟨b,j*o.sz+f,none⟩)) Y;pure Next.skip:Sem Next).run P w) .undef (st.setObj s g ⟨o.sz,o.es.set j G⟩):=by
     intro G f S V D bb ad;obtain⟨y1,y2,y3⟩:=hy.cells S;have au:=y1.length;have O:=r e E;have J:k.size=(l++L).length:=by rw[<- B];simp
     have I:Y.cells.size=sz:=by have:=au;simp at this;omega
     have aq:=Wv (P:=P) (t:=t) (sz:=sz) (x:=Y) (o:=j*o.sz+f) hi ap k1 I (by rw[J];simp;omega) (Gx y1 y3);have av:j*o.sz+f+sz<=l.length:=by omega
     have R:(k.toList.take (j*o.sz+f)++Y.cells.toList++k.toList.drop (j*o.sz+f+sz)) =
       (l.take (j*o.sz+f)++Y.cells.toList++l.drop (j*o.sz+f+sz))++L:=by
      rw[B,De (by omega),E7 (by omega)];simp[sI]
     have u:(o.es.set j G).flatMap AV.cells=(o.es.flatMap AV.cells).take (j*o.sz+f)++C.cells++(o.es.flatMap AV.cells).drop (j*o.sz+f+sz):=by
      rw[Lc AV.cells o.sz o.es j G r Q,D,<- U,ad];have e1:List.take f (List.take o.sz (List.drop (j*o.sz) (o.es.flatMap AV.cells)))=List.drop (j*o.sz) (List.take (j*o.sz+f) (o.es.flatMap AV.cells)):=by
       rw[GY,JI]
       congr 1;omega
      have e2:List.drop (f+sz) (List.take o.sz (List.drop (j*o.sz) (o.es.flatMap AV.cells)))++List.drop (j*o.sz+o.sz) (o.es.flatMap AV.cells)=List.drop (j*o.sz+f+sz) (o.es.flatMap AV.cells):=by
       rw[JI,uQ,<- Nat.add_assoc];have h1:j*o.sz+o.sz=(j*o.sz+f+sz)+(o.sz - (f+sz)):=by omega
       have h2:List.drop (j*o.sz+o.sz) (o.es.flatMap AV.cells)=List.drop (o.sz - (f+sz)) (List.drop (j*o.sz+f+sz) (o.es.flatMap AV.cells)):=by rw[uQ,<- h1]
       rw[h2];exact oK _ _
      rw[e1];have e3:List.take (j*o.sz) (o.es.flatMap AV.cells)++List.drop (j*o.sz) (List.take (j*o.sz+f) (o.es.flatMap AV.cells))=List.take (j*o.sz+f) (o.es.flatMap AV.cells):=by have:=oK (j*o.sz) (List.take (j*o.sz+f) (o.es.flatMap AV.cells));rw[GY,uN (by omega)]at this;exact this
      simp only[sI]at e3 ⊢;rw[<- List.append_assoc,e3,e2]
     have hh:=hs.heap.setObj ho hb (o.es.set j G) (k.toList.take (j*o.sz+f)++Y.cells.toList++k.toList.drop (j*o.sz+f+sz)).toArray
      (l.take (j*o.sz+f)++Y.cells.toList++l.drop (j*o.sz+f+sz))
      (λz hz=>by
       obtain h|h:=E5 hz
       .exact H.iI z h
       .rw[h];exact V)
      (λc M=>by
       rw[u]at M;obtain h|h:=dN.1 M
       .obtain h|h:=dN.1 h
        .exact H.one c (iC h)
        .exact y3 c h
       .exact H.one c (kD h))
      (by simp)
      (by rw[u];exact((k2.take _).append y1).append (k2.drop _))
      (CA R)
      (by
       have:(k.toList.take (j*o.sz+f)++Y.cells.toList++k.toList.drop (j*o.sz+f+sz)).length=k.size:=by
        have N:k.toList.length=k.size:=by simp
        simp only[gQ,fY,lp,N,TR,I];rw[J];simp;omega
       simp only[GX,this];exact k4)
     exact Zq (by rw[Vs];exact aq) hh (cP.setObj Z st s g o _ ho rfl (by simp))
    split at m
    .rename_i br;split at m
     .rename_i M;obtain⟨rfl,N⟩:=M;simp only[cD,c5]at m;obtain⟨rfl,rfl⟩:=m;have A:0<C.sz:=by omega
      have ao:=AV.bO A;have O:=r e E;rw[W];exact af C 0 A (by omega) (by simp[xY (show e.cells.length<=C.cells.length from by omega)]) (by omega) (by omega)
     .split at m
      .rename_i G n;simp only[cD,c5]at m;obtain⟨rfl,rfl⟩:=m;unfold AV.rT at n;split at n
       .rename_i ag;cases n;rw[W];have O:=r e E;have A:0<C.sz:=by omega
        have ao:=AV.bO A;exact af _ f A (by rw[Pc,bD]<;>simp<;>omega) (Q4 _) ag.1 (by omega)
       .cases n
      .cases m
    .cases m
   .cases m
  .cases m
 .cases m
end
section
variable {P:Program} {K:Ctx} {Z Z':Cz} {st st':St} {w w':World} {a:Act} {orc:Option bJ} {d:Nat} {v:AV}
theorem Xd{r:String}{x:Operand}{y:bP}(H:dJ x=some y)(hs:aN K Z st w a)(l:bY orc st d (.bV y)=some (v,st')) :
  Good P K Z st ((match a.eval x with
  | .pointer none | .nilIface | .nilFunc=>runtimePanic .nilDeref
  | .func (.method name) first i =>
   match (first[0]?:Option Value)with
   | some .nilIface=>runtimePanic .nilDeref
   | some (.iface t w)=>do
    if (<- nilAhead ((<- program).types.size+Made.depth) t w name) != some false then
     unsupported (.noEntry r)
    pure (.value (.func (.method name) first i))
   | _=>pure (.value (.func (.method name) first i))
  | x=>pure (.value x):Sem Next).run P w) v st':=by
 have m:=fH H hs;generalize a.eval x=X at m ⊢;simp only[bY]at l;split at l
 .rename_i s g L I j;rw[j]at m;split at l
  .rename_i o G;simp only[cD,c5]at l;obtain⟨rfl,rfl⟩:=l;obtain⟨b,J,rfl⟩:=BV m G;exact tR hs.heap m
  .cases l
 .rename_i j;rw[j]at m;simp only[cD,c5]at l;obtain⟨rfl,rfl⟩:=l;have p:=m.cF;cases p with
  | fn f u k h=>exact tR hs.heap m
 .rename_i j;rw[j]at m;simp only[cD,c5]at l;obtain⟨rfl,rfl⟩:=l;cases m with
  | fn _ _ k h=>exact tR hs.heap (.fn _ _ k h)
 .rename_i j;rw[j]at m;simp only[cD,c5]at l;obtain⟨rfl,rfl⟩:=l;have p:=m.cF;cases p with
  | ref v b o n T z k A B C D E=>exact tR hs.heap m
 .rename_i j;rw[j]at m;simp only[cD,c5]at l;obtain⟨rfl,rfl⟩:=l;cases m with
  | cp _ _ _ b o n T z k A B C D E F=>exact tR hs.heap (.cp _ _ _ b o n T z k A B C D E F)
 .cases l
def YG{b:BinOp}{k:IntKind}{x y:Int}{r:PV}{t:TypeId}{M:Nat->Option Obj}(i:xO b=false)(h:BF b k x y=some r) :
  ∃ z,(binOp b t (.int k x) (.int k y)).run P w=.ok z w/\PRep M r z:=by
 cases b<;>simp only[xO,Bool.true_eq_false]at i<;>simp only[BF]at h <;>
  first
  | (cases h;refine⟨_,?_,by constructor⟩;simp[binOp,Op.intArith,Op.intBits,Op.intCmp];done)
  | (split at h<;>first|(cases h;done)|(cases h;rename_i f;refine⟨_,?_,by constructor⟩;simp[binOp,Op.intDiv,f]))
def VC{b:BinOp}{k k':IntKind}{x y:Int}{r:PV}{t:TypeId}{M:Nat->Option Obj}(i:xO b=true)(h:F4 b k x y=some r) :
  ∃ z,(binOp b t (.int k x) (.int k' y)).run P w=.ok z w/\PRep M r z:=by
 unfold F4 at h;split at h
 .cases h
 .rename_i f;cases b<;>simp only[xO,gP]at i<;>cases h<;>refine⟨_,?_,by constructor⟩<;>simp[binOp,Op.shift,f]
def U4{b:BinOp}{t:TypeId}{x y:Operand}{k k':IntKind}{n m:Int}:eqGuard b t x y (.int k n) (.int k' m)=pure ():=by cases b<;>rfl
def Vy{b:BinOp}{t:TypeId}{x y:Operand}{n m:Bool}:eqGuard b t x y (.bool n) (.bool m)=pure ():=by cases b<;>rfl
def yb5{h:BinOp}{t:TypeId}{x y:Operand}{B C:bP}(F:dJ x=some B)(G:dJ y=some C)(hs:aN K Z st w a)
  (f:bY orc st d (.dI h B C)=some (v,st')) :
  Good P K Z st ((do pure (Next.value (<- (do eqGuard h t x y (a.eval x) (a.eval y);binOp h t (a.eval x) (a.eval y)))):Sem Next).run P w) v st':=by
 have s:=fH F hs;have u:=fH G hs;simp only[bY]at f;split at f
 .rename_i r b;simp only[cD,c5]at f;obtain⟨rfl,rfl⟩:=f;unfold dI at b;split at b
  .rename_i k n k' m D E;rw[D]at s;rw[E]at u;rw[s.dK,u.dK];have A:(eqGuard h t x y (.int k n) (.int k' m)).run P w=.ok () w:=by rw[U4];rfl
   split at b
   .rename_i i;obtain⟨z,l,o⟩:=VC (P:=P) (w:=w) (t:=t) (k':=k') (M:=Z.M) i b;exact iH (by simp[A,l]) hs (.p _ _ o)
   .rename_i i;split at b
    .rename_i j;subst j;obtain⟨z,l,o⟩:=YG (P:=P) (w:=w) (t:=t) (M:=Z.M) (by simpa using i) b;exact iH (by simp[A,l]) hs (.p _ _ o)
    .cases b
  .cases b
 .cases f
def yb8{h:BinOp}{t:TypeId}{x y:Operand}{o s:bP}(A:P.underlying t=some .bool)(B:dJ x=some o)(C:dJ y=some s)(hs:aN K Z st w a)
  (f:bY orc st d (.gJ h o s)=some (v,st')) :
  Good P K Z st ((do pure (Next.value (<- (do eqGuard h t x y (a.eval x) (a.eval y);binOp h t (a.eval x) (a.eval y)))):Sem Next).run P w) v st':=by
 have i:=fH B hs;have j:=fH C hs;simp only[bY]at f;split at f
 .rename_i r b;simp only[cD,c5]at f;obtain⟨rfl,rfl⟩:=f;unfold gJ at b;split at b
  .rename_i k n u z;rw[u]at i;rw[z]at j;rw[i.fT,j.fT];have l:(eqGuard h t x y (.bool k) (.bool n)).run P w=.ok () w:=by rw[Vy];rfl
   have m:(Op.equal t (.bool k) (.bool n)).run P w=.ok (k == n) w:=run_equalIn_bool w _ t k n A;split at b
   .cases b;exact iH (by simp[l,binOp,m]) hs (.p _ _ (.bool _))
   .cases b;exact iH (by simp[l,binOp,m]) hs (.p _ _ (.bool _))
   .cases b
  .cases b
 .cases f
def ygv{x:Operand}{y:bP}(h:dJ x=some y)(hs:aN K Z st w a)(b:bY orc st d (.not y)=some (v,st')) :
  Good P K Z st ((do pure (Next.value (<- Op.unary .not (a.eval x))):Sem Next).run P w) v st':=by
 have f:=fH h hs;simp only[bY]at b;split at b
 .rename_i e;rw[e]at f;rw[f.fT];simp only[cD,c5]at b;obtain⟨rfl,rfl⟩:=b;exact iH (by simp[Op.unary]) hs (.p _ _ (.bool _))
 .cases b
def ygw{x:Operand}{y:bP}(h:dJ x=some y)(hs:aN K Z st w a)(b:bY orc st d (.neg y)=some (v,st')) :
  Good P K Z st ((do pure (Next.value (<- Op.unary .neg (a.eval x))):Sem Next).run P w) v st':=by
 have f:=fH h hs;simp only[bY]at b;split at b
 .rename_i e;rw[e]at f;rw[f.dK];simp only[cD,c5]at b;obtain⟨rfl,rfl⟩:=b;exact iH (by simp[Op.unary,Op.intArith]) hs (.p _ _ (.int _ _))
 .cases b
def yb4{x:Operand}{y:bP}(h:dJ x=some y)(hs:aN K Z st w a)(b:bY orc st d (.tA y)=some (v,st')) :
  Good P K Z st ((do pure (Next.value (<- Op.unary .xor (a.eval x))):Sem Next).run P w) v st':=by
 have f:=fH h hs;simp only[bY]at b;split at b
 .rename_i e;rw[e]at f;rw[f.dK];simp only[BF,cD,c5]at b;obtain⟨rfl,rfl⟩:=b;exact iH (by simp[Op.unary,Op.intBits]) hs (.p _ _ (.int _ _))
 .cases b
def yb7{s t:TypeId}{ds:TypeDesc}{k:IntKind}{x:Operand}{y:bP}(h:P.underlying s=some ds)(i:P.underlying t=some (.int k))(j:dJ x=some y)(hs:aN K Z st w a)
  (b:bY orc st d (.conv k y)=some (v,st')) :
  Good P K Z st ((do pure (Next.value (<- convert s t (a.eval x))):Sem Next).run P w) v st':=by
 have f:=fH j hs;simp only[bY]at b;split at b
 .rename_i e;rw[e]at f;rw[f.dK];simp only[cD,c5]at b;obtain⟨rfl,rfl⟩:=b;refine iH (x:=.int k (k.wrap _)) ?_ hs (.p _ _ (.int _ _));cases ds<;>simp[convert,run_underlying h,run_underlying i,Conv.intToInt]
 .cases b
def yb2{f:FuncId}{b:Array Operand}{i:List bP}(k:oX b.toList=some i)(hs:aN K Z st w a)(h:bY orc st d (.gT f i)=some (v,st')) :
  Good P K Z st ((do pure (Next.value (<- Instr.makeFunc (.func f) ((#[]:Array Operand).map a.eval) (b.map a.eval))):Sem Next).run P w) v st':=by
 have j:=CJ k hs;simp only[bY]at h;split at h
 .simp only[Option.some.injEq,Prod.mk.injEq]at h;obtain⟨rfl,rfl⟩:=h;refine iH (x:=.func (.func f) #[] (b.map a.eval)) (by simp[Instr.makeFunc]) hs ?_;have:=aQ.fn f _ _ j;simpa[<- Array.toList_map]using this
 .cases h
def W8{s:TypeId}{A:Array Field}{n:Nat}{k:Field}{x:Operand}{y:bP}(E:P.underlying s=some (.struct A))(F:A[n]?=some k)(t:0<ew P k.type)
  (G:dJ x=some y) (hs:aN K Z st w a) (f:bY orc st d (.iP k.offset y)=some (v,st')) :
  Good P K Z st ((do pure (Next.value (<- Instr.fieldAt s (a.eval x) n)):Sem Next).run P w) v st':=by
 have l:=fH G hs;obtain⟨i,p,u⟩:∃ i,P.info? k.type=some i/\i.size≠0:=by
  simp only[ew,Program.cellsOf]at t;cases p:P.info? k.type with
  | none=>simp[p]at t
  | some i=>simp[p]at t;exact⟨i,rfl,by omega⟩
 have h:∀ b o,(Instr.fieldAt s (.pointer (some ⟨b,o,none⟩)) n).run P w=.ok (.pointer (some ⟨b,o+k.offset,none⟩)) w:=by intro b o;simp[Instr.fieldAt,run_underlying E,F,Instr.sureAddr,fieldPlace,sizeOf,typeInfo,p,u,vB]
 generalize a.eval x=X at l ⊢;simp only[bY]at f;split at f
 .rename_i R g Q o j;rw[j]at l;split at f
  .rename_i z B;simp only[cD,c5]at f;obtain⟨rfl,rfl⟩:=f;obtain⟨b,C,rfl⟩:=BV l B;exact iH (h b _) hs (by rw[Dg];exact .ptr _ _ _ _ z b B C)
  .cases f
 .rename_i pv O o j;rw[j]at l;simp only[cD,c5]at f;obtain⟨rfl,rfl⟩:=f;cases l with
  | cp _ _ _ b z r T D m H I J L M N=>exact iH (h b _) hs (by rw[Dg];exact .cp _ _ _ b z r T D m H I J L M N)
 .cases f
end
section
variable {P:Program} {K:Ctx} {Z Z':Cz} {st st':St} {w w':World} {a:Act} {orc:Option bJ} {d:Nat} {v:AV}
def U2{x:Operand}{y:bP}{i:Nat}(r:dJ x=some y)(hs:aN K Z st w a)(b:bY orc st d (.extract y i)=some (v,st')) :
  Good P K Z st ((do pure (Next.value (<- Instr.extract (a.eval x) i)):Sem Next).run P w) v st':=by
 have k:=fH r hs;generalize a.eval x=X at k ⊢;simp only[bY]at b;split at b
 .rename_i s f;rw[f]at k;split at b
  .rename_i u m;simp only[cD,c5]at b;obtain⟨rfl,rfl⟩:=b;cases k with
   | bM _ l h =>
    obtain⟨z,n,j⟩:=h.get i u m;exact iH (by simp[Instr.extract,n]) hs j
  .cases b
 .rename_i s f;rw[f]at k;split at b
  .rename_i u m;simp only[cD,c5]at b;obtain⟨rfl,rfl⟩:=b;have o:=k.cF;cases o with
   | bM _ l h =>
    obtain⟨z,n,j⟩:=h.get i u m;exact iH (by simp[Instr.extract,n]) hs (.p _ _ j)
  .cases b
 .cases b
theorem OC{t:TypeId}{sz off:Nat}{l:Bool}{u r:AV}{cells:List AV}{X:Value}(E:tok P t sz l=true)(x:aQ Z st u X)(f:u.jB=some cells)(hu:sW cells off sz l=some r) :
  ∃ cs y,X=.agg cs/\(part t cs off).run P w=.ok y w/\aQ Z st r y:=by
 obtain⟨i,d,C,o,s,j,A,n⟩:=F7 E;obtain⟨b,z,k,h⟩:∃ b,X=.agg (b:List Value).toArray/\aG Z st cells b/\∀ c∈cells,c.one=true:=by
  unfold AV.jB at f;split at f
  .cases f;cases x.cF with
   | agg cs b h m=>exact⟨b,rfl,aG.lZ m,λc f=>by simp at f;obtain⟨q,D,rfl⟩:=f;exact h q D⟩
  .cases f;cases x with
   | agg cs b h m=>exact⟨b,rfl,m,h⟩
  .cases f
 subst z;refine⟨b.toArray,?_⟩;cases l with
 | true =>
  simp only[sW,cH]at hu;split at hu
  .rename_i G;cases hu;refine⟨.agg ((b.drop off).take sz).toArray,rfl,?_,aQ.eQ (λc f=>h c (kD (iC f))) ((k.drop off).take sz)⟩;simp[part,Gd w s,j,sizeOf,typeInfo,C,o]
  .cases hu
 | false =>
  have:=n rfl;subst this;simp only[sW,if_true,Bool.false_eq_true,if_false]at hu;have B:cells[off]?=some r:=by rw[List.head?_eq_getElem?,List.getElem?_take]at hu;simpa using hu
  obtain⟨y,F,p⟩:=k.get off r B;exact⟨y,rfl,by simp[part,Gd w s,j,F],p⟩
def W9{s:TypeId}{k:Array Field}{n:Nat}{b:Field}{x:Operand}{y:bP}(m:P.underlying s=some (.struct k))(o:k[n]?=some b)
  (p:tok P b.type (ew P b.type) (jI P b.type)=true) (t:dJ x=some y) (hs:aN K Z st w a) (f:bY orc st d (.field b.offset (ew P b.type) (jI P b.type) y)=some (v,st')) :
  Good P K Z st ((do pure (Next.value (<- Instr.field s (a.eval x) n)):Sem Next).run P w) v st':=by
 have l:=fH t hs;generalize a.eval x=X at l ⊢;simp only[bY]at f;split at f
 .rename_i B i;split at f
  .rename_i u r;simp only[cD,c5]at f;obtain⟨rfl,rfl⟩:=f;obtain⟨h,z,rfl,A,j⟩:=OC (P:=P) (w:=w) p l i r;exact iH (by simp[Instr.field,run_underlying m,o,asAgg,A]) hs j
  .cases f
 .cases f
def ygy{t e:TypeId}{n:Nat}{x i:Operand}{y j:bP}(C:P.underlying t=some (.array n e))
  (B:tok P e (ew P e) (jI P e)=true) (H:dJ x=some y) (D:dJ i=some j) (hs:aN K Z st w a) (b:bY orc st d (.idx n (ew P e) (jI P e) y j)=some (v,st')) :
  Good P K Z st ((do pure (Next.value (<- Instr.index t (a.eval x) (a.eval i))):Sem Next).run P w) v st':=by
 have A:=fH H hs;have f:=fH D hs;obtain⟨inf,_,h,l,_⟩:=F7 B;generalize a.eval x=X at A ⊢;generalize a.eval i=I at f ⊢;simp only[bY]at b;split at b
 .rename_i m F;split at b
  .rename_i r;split at b
   .rename_i L p;split at b
    .rename_i u G;simp only[cD,c5]at b;obtain⟨rfl,rfl⟩:=b;obtain⟨k,E⟩:=yD F;rw[E]at f;rw[f.dK];obtain⟨o,z,rfl,J,s⟩:=OC (P:=P) (w:=w) B A p G;have M:(0:Int)<=(m:Int)/\(m:Int)<(n:Int):=by omega
     exact iH (by simp[Instr.index,run_underlying C,asIntOf,r,sizeOf,typeInfo,h,l,J]) hs s
    .cases b
   .cases b
  .cases b
 .cases b
def Xa{t e:TypeId}{x i:Operand}{y j:bP}(h1:P.underlying t=some (.slice e))(l:(P.info? e).isSome=true)
  (hx:dJ x=some y) (hi:dJ i=some j) (hs:aN K Z st w a) (f:bY orc st d (.cG (ew P e) y j)=some (v,st')) :
  Good P K Z st ((do pure (Next.value (<- Instr.indexAt t (a.eval x) (a.eval i))):Sem Next).run P w) v st':=by
 have G:=fH hx hs;have n:=fH hi hs;obtain⟨inf,l⟩:=Ck.1 l;have F:inf.size=ew P e:=by simp[ew,Program.cellsOf,l]
 generalize ew P e=sz at *
 generalize a.eval x=X at G ⊢;generalize a.eval i=I at n ⊢;have A:∀ (k:IntKind) (m:Nat) (b o p c:Nat),m<p->(Instr.indexAt t (.slice (some ⟨b,o,none⟩) p c) (.int k m)).run P w=.ok (.pointer (some ⟨b,o+m*sz,none⟩)) w:=by intro k m b o p c C;simp[Instr.indexAt,run_underlying h1,asIntOf,C,sizeOf,typeInfo,l,F,vB]
 simp only[bY]at f;split at f
 .rename_i m es W B;obtain⟨k,V⟩:=yD W;rw[V]at n;rw[n.dK];rw[B]at G;split at f
  .rename_i M r;split at f
   .rename_i J;simp only[cD,c5]at f;obtain⟨rfl,rfl⟩:=f;have E:=wM r;cases G.cF with
    | rB=>simp at r
    | sl _ b o O Q T fr h L m0 m1 m2 m3 m4 m5 m6 =>
     have C:=(iU.1 r).1;have D:h=sz:=by rw[<- m2 M E];exact J.1
     subst D;have U:∀ q∈es,(PV.cells q).length=h:=λq u=>by rw[PV.bO (by rw[m2 q u];exact m1),m2 q u]
     have H:=FV PV.cells h es m M U r;refine iH (A k m b o _ O C) hs ?_
     have:=aQ.cp (Z:=Z) (st:=st) M h 0 b (o+m*h) Q T fr ((L.drop (m*h)).take h) m0 m1 J.1
      (λc N=>m3 c (kC.2 ⟨M,E,N⟩)) (by rw[<- H];exact(m4.drop _).take _)
      (λq z u=>by
       rw[Cl]at u;split at u
       .rw[Cm]at u;rw[Dg];exact m5 _ _ u
       .cases u)
     simpa using this
   .cases f
  .cases f
 .rename_i m s g af p W B;obtain⟨k,V⟩:=yD W;rw[V]at n;rw[n.dK];rw[B]at G;split at f
  .rename_i o Y;split at f
   .rename_i N;simp only[cD,c5]at f;obtain⟨rfl,rfl⟩:=f;cases G with
    | d'=>omega
    | own _ _ _ _ o' b ad c e1 R e3 e4 e5 e6 =>
     rw[Y]at e1;cases e1;have S:=e4 (by omega);subst S;refine iH (A k m b _ p c N.1) hs ?_;have:=aQ.ptr (Z:=Z) (st:=st) s g (af+m) 0 o b Y R;rw[<- N.2.2];simpa[Nat.add_mul]using this
    | eO _ _ _ _ _ _ _ R=>exact(uH Y R).elim
   .cases f
  .cases f
 .cases f
def Yk{t e:TypeId}{n:Nat}{x i:Operand}{y j:bP}(L:P.underlying t=some (.array n e))(f:(P.info? e).isSome=true)
  (N:dJ x=some y) (M:dJ i=some j) (hs:aN K Z st w a) (h:bY orc st d (.cB n (ew P e) y j)=some (v,st')) :
  Good P K Z st ((do pure (Next.value (<- Instr.indexAt t (a.eval x) (a.eval i))):Sem Next).run P w) v st':=by
 have A:=fH N hs;have p:=fH M hs;obtain⟨inf,f⟩:=Ck.1 f;have z:inf.size=ew P e:=by simp[ew,Program.cellsOf,f]
 generalize ew P e=W at *
 generalize a.eval x=X at A ⊢;generalize a.eval i=I at p ⊢;have r:∀ (k:IntKind) (m:Nat) (b o:Nat),m<n->(Instr.indexAt t (.pointer (some ⟨b,o,none⟩)) (.int k m)).run P w=.ok (.pointer (some ⟨b,o+m*W,none⟩)) w:=by intro k m b o l;simp[Instr.indexAt,run_underlying L,asIntOf,l,sizeOf,typeInfo,f,z,vB,Instr.sureAddr]
 simp only[bY]at h;split at h
 .rename_i m s g ix o E u;obtain⟨k,D⟩:=yD E;rw[D]at p;rw[p.dK];rw[u]at A;split at h
  .rename_i F G;split at h
   .rename_i l;simp only[cD,c5]at h;obtain⟨rfl,rfl⟩:=h;obtain⟨b,H,rfl⟩:=BV A G;exact iH (r k m b _ l) hs (by rw[Dg];exact .ptr _ _ _ _ F b G H)
   .cases h
  .cases h
 .rename_i m pv Y o E u;obtain⟨k,D⟩:=yD E;rw[D]at p;rw[p.dK];rw[u]at A;split at h
  .rename_i l;simp only[cD,c5]at h;obtain⟨rfl,rfl⟩:=h;cases A with
   | cp _ _ _ b F C T J B O Q R S U V=>exact iH (r k m b _ l) hs (by rw[Dg];exact .cp _ _ _ b F C T J B O Q R S U V)
  .cases h
 .cases h
def ygx{args:Array TypeId}{ty:TypeId}{x:Operand}{y:bP}(r:uE (args[0]?.bind P.underlying)=true)(D:dJ x=some y)(hs:aN K Z st w a)(i:bY orc st d (.len y)=some (v,st')) :
  Good P K Z st ((do pure (Next.value (<- Builtin.len_ args ty #[a.eval x])):Sem Next).run P w) v st':=by
 have j:=fH D hs;obtain⟨t,e,u,z⟩:∃ t e,args[0]?=some t/\P.underlying t=some (.slice e):=by
  cases m:args[0]? with
  | none=>simp[m,uE]at r
  | some t =>
   cases A:P.underlying t with
   | none=>simp[m,A,uE]at r
   | some d=>cases d<;>simp[m,A,uE]at r;exact⟨t,_,rfl,A⟩
 have f:∀ k n c,(Builtin.len_ args ty #[.slice k n c]).run P w=.ok (.int .i64 n) w:=by intro k n c;simp[Builtin.len_,u,run_underlying z,goInt]
 generalize a.eval x=X at j ⊢;simp only[bY]at i;split at i
 .rename_i H h;rw[h]at j;simp only[cD,c5]at i;obtain⟨rfl,rfl⟩:=i;cases j.cF with
  | rB k l=>exact iH (f _ _ _) hs (.p _ _ (.int _ _))
  | sl _ b o l C T I G B J L M N O Q R=>exact iH (f _ _ _) hs (.p _ _ (.int _ _))
 .rename_i h;rw[h]at j;simp only[cD,c5]at i;obtain⟨rfl,rfl⟩:=i;cases j;exact iH (f _ _ _) hs (.p _ _ (.int _ _))
 .rename_i s g F E h;rw[h]at j;simp only[cD,c5]at i;obtain⟨rfl,rfl⟩:=i;cases j with
  | d'=>exact iH (f _ _ _) hs (.p _ _ (.int _ _))
  | own=>exact iH (f _ _ _) hs (.p _ _ (.int _ _))
  | eO=>exact iH (f _ _ _) hs (.p _ _ (.int _ _))
 .cases i
end
section
variable {P:Program} {K:Ctx} {Z Z':Cz} {st st':St} {w w':World} {a:Act} {orc:Option bJ} {d:Nat} {v:AV}
theorem BX{α β : Type}(f : α -> List β)(sz:Nat):∀ (es:List α) (n:Nat),(∀ e∈es,(f e).length=sz)->(es.take n).flatMap f=(es.flatMap f).take (n*sz)
 | [],n,_=>by simp
 | x::es,0,_=>by simp
 | x::es,n+1,h=>by have b:=h x (by simp);rw[GV,jG,jG,BX f sz es n (λy i=>h y (by simp[i])),Ah,List.take_append,eZ (l:=f x) (by omega),b,GZ]
theorem CW{α β : Type}(f : α -> List β)(sz:Nat):∀ (es:List α) (n:Nat),(∀ e∈es,(f e).length=sz)->(es.drop n).flatMap f=(es.flatMap f).drop (n*sz)
 | [],n,_=>by simp
 | x::es,0,_=>by simp
 | x::es,n+1,h=>by have b:=h x (by simp);rw[NF,jG,CW f sz es n (λy i=>h y (by simp[i])),Ah,List.drop_append,xY (l:=f x) (by omega),b,GZ,uP]
def Yl{u:AV}{X:Value}{xs:List AV}{sz:Nat}(k:st.elems u=some xs)(D:aQ Z st u X)(S:bG K Z st w)(z:∀ e∈xs,e.sz=sz)(hp:0<sz) :
  ∃ ad c vals,X=.slice ad xs.length c/\aG Z st (xs.flatMap AV.cells) vals/\(∀ q∈xs.flatMap AV.cells,q.one=true)/\vals.length=xs.length*sz /\
   ∀ w':World,w'.heap=w.heap->(Builtin.firstCells sz xs.length X).run P w'=.ok vals.toArray w':=by
 have J:∀ e∈xs,(AV.cells e).length=sz:=λe k=>by rw[AV.bO (by rw[z e k];exact hp),z e k]
 unfold St.elems at k;split at k
 .rename_i es;cases k;cases D.cF with
  | rB ad i =>
   refine⟨ad,i,[],by simp,by simpa using aG.nil,by simp,by simp,λw' G=>?_⟩;cases ad with
   | none=>simp[Builtin.firstCells]
   | some ad=>exact run_firstCells_some w' sz 0 ad 0 i [] (by simp) (by simp)
  | sl _ b o i p T fr af vals m0 m1 m2 m3 W m5 m6 m7 =>
   have hl:=W.length;have n:vals.length=es.length*sz:=by have R:=wE AV.cells sz _ J;rw[qU,ra,ra]at R;rw[hl];exact R
   refine⟨some ⟨b,o,none⟩,i,vals,by simp,by rw[qU];exact aG.lZ W,?_,by simpa using n,λw' G=>?_⟩
   .rw[qU];intro q x;simp only[cA]at x;obtain⟨r,O,rfl⟩:=x;exact m3 r O
   .refine run_firstCells_some w' sz _ ⟨b,o,none⟩ _ i vals (by simpa using n) (λj y A=>?_);rw[vB,cell_of_row w' b _ p T fr (by rw[G];exact S.mem b _ m0)];exact m5 j y A
 .cases k;cases D;exact⟨none,0,[],rfl,by simpa using aG.nil,by simp,by simp,λw' _=>by simp[Builtin.firstCells]⟩
 .cases k;cases D.cF with
  | nl i=>exact⟨none,i,[],rfl,by simpa using aG.nil,by simp,by simp,λw' _=>by simp[Builtin.firstCells]⟩
 .cases k;cases D.cF with
  | sle ad i=>exact⟨some ad,i,[],rfl,by simpa using aG.nil,by simp,by simp,λw' G=>run_firstCells_some w' sz 0 ad 0 i [] (by simp) (by simp)⟩
 .rename_i s g l f;split at k
  .rename_i o N;split at k
   .rename_i L;cases k;have B:=S.bT s g o N;have m:((o.es.drop l).take f).length=f:=by simp;omega
    cases D with
    | d' =>
     rw[m];exact⟨none,0,[],rfl,by simpa using aG.nil,by simp,by simp,λw' _=>by simp[Builtin.firstCells]⟩
    | own _ _ _ _ o' b ad c Q H e3 Y e5 e6 =>
     rw[N]at Q;cases Q;obtain⟨p,T,vals,k1,V,k3,k4,k5,k6⟩:=B.bX b H;have t:∀ e∈o.es,(AV.cells e).length=o.sz:=λe k=>by rw[AV.bO (by rw[B.iI e k];exact B.pos),B.iI e k]
     by_cases h0:f=0
     .subst h0;refine⟨some ad,c,[],by simp,by simpa using aG.nil,by simp,by simp,λw' _=>?_⟩;simpa using run_firstCells_some (P:=P) w' sz 0 ad 0 c [] (by simp) (by simp)
     .have I:=Y (by omega);subst I;have E:sz=o.sz:=by
       have M:(o.es.drop l).take f≠[]:=by intro h;rw[h]at m;simp at m;omega
       obtain⟨q,x⟩:=ND _ M;rw[<- z q x];exact B.iI q (kD (iC x))
      subst E;have C:((o.es.drop l).take f).flatMap AV.cells=((o.es.flatMap AV.cells).drop (l*o.sz)).take (f*o.sz):=by rw[BX AV.cells o.sz _ f (λe k=>t e (kD k)),CW AV.cells o.sz _ l t]
      have F:=V.length;rw[wE AV.cells o.sz _ t]at F;have U:l*o.sz+f*o.sz<=vals.length:=by rw[F,<- Nat.add_mul];exact jU _ L
      refine⟨some ⟨b,l*o.sz,none⟩,c,(vals.drop (l*o.sz)).take (f*o.sz),by rw[m],by rw[C];exact(V.drop _).take _,?_,by rw[m];simp;omega,λw' G=>?_⟩
      .rw[C];intro q x;exact B.one q (kD (iC x))
      .rw[m];refine run_firstCells_some w' o.sz f ⟨b,l*o.sz,none⟩ f c _ (by simp;omega) (λj y A=>?_);rw[vB,cell_of_row w' b _ p T (0,0) (by rw[G];exact k1)];rw[Cl]at A;split at A
       .rw[Cm]at A;exact k3 _ _ A
       .cases A
    | eO _ _ _ _ _ _ _ H=>exact(uH N H).elim
   .cases k
  .cases k
 .cases k
def Xg{u:AV}{X:Value}{xs:List AV}{sz:Nat}(k:st.elems u=some xs)(F:aQ Z st u X)(W:bG K Z st w)(C:∀ e∈xs,e.sz=sz)(hp:0<sz) :
  ∃ ad c vals,X=.slice ad xs.length c/\aG Z st (xs.flatMap AV.cells) vals/\(∀ q∈xs.flatMap AV.cells,q.one=true)/\vals.length=xs.length*sz /\
   ∀ m,m<=xs.length->∀ w':World,w'.heap=w.heap->(Builtin.firstCells sz m X).run P w'=.ok (vals.take (m*sz)).toArray w':=by
 have M:∀ e∈xs,(AV.cells e).length=sz:=λe k=>by rw[AV.bO (by rw[C e k];exact hp),C e k]
 unfold St.elems at k;split at k
 .rename_i es;cases k;cases F.cF with
  | rB ad f =>
   refine⟨ad,f,[],by simp,by simpa using aG.nil,by simp,by simp,λm n w' I=>?_⟩;obtain rfl:m=0:=by simpa using n
   cases ad with
   | none=>simp[Builtin.firstCells]
   | some ad=>exact(by simpa using run_firstCells_some (P:=P) w' sz 0 ad 0 f [] (by simp) (by simp))
  | sl _ b o f z T fr af vals m0 m1 m2 m3 m4 m5 m6 m7 =>
   have hl:=m4.length;have x:vals.length=es.length*sz:=by have V:=wE AV.cells sz _ M;rw[qU,ra,ra]at V;rw[hl];exact V
   refine⟨some ⟨b,o,none⟩,f,vals,by simp,by rw[qU];exact aG.lZ m4,?_,by simpa using x,λm n w' I=>?_⟩
   .rw[qU];intro q B;simp only[cA]at B;obtain⟨r,S,rfl⟩:=B;exact m3 r S
   .have O:m*sz<=vals.length:=by rw[x];exact Nat.mul_le_mul_right _ (by simpa using n)
    refine run_firstCells_some w' sz m ⟨b,o,none⟩ _ f (vals.take (m*sz)) (by simp;omega) (λj y t=>?_);rw[vB,cell_of_row w' b _ z T fr (by rw[I];exact W.mem b _ m0)];rw[Cl]at t;split at t
    .exact m5 j y t
    .cases t
 .cases k;cases F;exact⟨none,0,[],rfl,by simpa using aG.nil,by simp,by simp,λm n w' _=>by simp[Builtin.firstCells]⟩
 .cases k;cases F.cF with
  | nl f=>exact⟨none,f,[],rfl,by simpa using aG.nil,by simp,by simp,λm n w' _=>by simp[Builtin.firstCells]⟩
 .cases k;cases F.cF with
  | sle ad f =>
   refine⟨some ad,f,[],rfl,by simpa using aG.nil,by simp,by simp,λm n w' I=>?_⟩;obtain rfl:m=0:=by simpa using n
   simpa using run_firstCells_some (P:=P) w' sz 0 ad 0 f [] (by simp) (by simp)
 .rename_i s g l i;split at k
  .rename_i o R;split at k
   .rename_i N;cases k;have D:=W.bT s g o R;have p:((o.es.drop l).take i).length=i:=by simp;omega
    cases F with
    | d' =>
     rw[p];exact⟨none,0,[],rfl,by simpa using aG.nil,by simp,by simp,λm n w' _=>by simp[Builtin.firstCells]⟩
    | own _ _ _ _ o' b ad c U J e3 e4 e5 e6 =>
     rw[R]at U;cases U;obtain⟨z,T,vals,k1,k2,k3,k4,k5,k6⟩:=D.bX b J;have A:∀ e∈o.es,(AV.cells e).length=o.sz:=λe k=>by rw[AV.bO (by rw[D.iI e k];exact D.pos),D.iI e k]
     by_cases h0:i=0
     .subst h0;refine⟨some ad,c,[],by simp,by simpa using aG.nil,by simp,by simp,λm n w' _=>?_⟩;obtain rfl:m=0:=by simpa using n
      simpa using run_firstCells_some (P:=P) w' sz 0 ad 0 c [] (by simp) (by simp)
     .have L:=e4 (by omega);subst L;have G:sz=o.sz:=by
       have Q:(o.es.drop l).take i≠[]:=by intro h;rw[h]at p;simp at p;omega
       obtain⟨q,B⟩:=ND _ Q;rw[<- C q B];exact D.iI q (kD (iC B))
      subst G;have E:((o.es.drop l).take i).flatMap AV.cells=((o.es.flatMap AV.cells).drop (l*o.sz)).take (i*o.sz):=by rw[BX AV.cells o.sz _ i (λe k=>A e (kD k)),CW AV.cells o.sz _ l A]
      have H:=k2.length;rw[wE AV.cells o.sz _ A]at H;have Y:l*o.sz+i*o.sz<=vals.length:=by rw[H,<- Nat.add_mul];exact jU _ N
      refine⟨some ⟨b,l*o.sz,none⟩,c,(vals.drop (l*o.sz)).take (i*o.sz),by rw[p],by rw[E];exact(k2.drop _).take _,?_,by rw[p];simp;omega,λm n w' I=>?_⟩
      .rw[E];intro q B;exact D.one q (kD (iC B))
      .rw[p]at n;have O:m*o.sz<=i*o.sz:=jU _ n;refine run_firstCells_some w' o.sz m ⟨b,l*o.sz,none⟩ _ c _ (by simp;omega) (λj y t=>?_);rw[vB,cell_of_row w' b _ z T (0,0) (by rw[I];exact k1)];rw[Cl]at t;split at t
       .rw[Cl]at t;split at t
        .rw[Cm]at t;exact k3 _ _ t
        .cases t
       .cases t
    | eO _ _ _ _ _ _ _ J=>exact(uH R J).elim
   .cases k
  .cases k
 .cases k
def Ly{c:AV}(h:c.one=true):c.uS.one=true:=by cases c<;>first|rfl|exact h
def yaf{c:AV}{x:Value}(h:aQ Z st c x):aQ Z st c.uS x:=by
 cases c<;>first|exact h|skip
 cases h;exact .p _ _ (.rB none 0)
theorem IE:∀ {cs:List AV} {xs:List Value},aG Z st cs xs->aG Z st (cs.map AV.uS) xs
 | _,_,.nil=>.nil
 | _,_,.cons _ _ _ _ h b=>.cons _ _ _ _ (yaf h) (IE b)
theorem WY(v:AV):v.ey.cells=v.cells.map AV.uS:=by
 cases v with
 | agg b=>exact Q4 _
 | p v=>simp only[AV.ey,AV.oT,yG];congr 1
 | _=>rfl
theorem vA(v:AV):v.ey.sz=v.sz:=by
 cases v with
 | agg b=>show(eQ _).sz=_;rw[Pc,ra];rfl
 | _=>rfl
theorem FR{v:AV}{x:Value}(h:aQ Z st v x):aQ Z st v.ey x:=by
 cases v with
 | agg l =>
  cases h with
  | agg _ f i j=>exact aQ.eQ (λc b=>by simp at b;obtain⟨q,k,rfl⟩:=b;exact Ly (i q k)) (IE j)
 | nil=>cases h;exact .p _ _ (.rB none 0)
 | _=>exact h
theorem H8(xs:List AV):(xs.map AV.ey).flatMap AV.cells=(xs.flatMap AV.cells).map AV.uS:=by
 induction xs with
 | nil=>rfl
 | cons x xs b=>simp[jH,b,WY]
def Xe{t e:TypeId}{x:Operand}{y:bP}{Q O:Option Operand}{L J:Option bP}(h1:P.underlying t=some (.slice e))(B:(P.info? e).isSome=true)
  (hx:dJ x=some y) (bb:(Q=none/\L=none)\/∃ l l',Q=some l/\L=some l'/\dJ l=some l') (av:(O=none/\J=none)\/∃ l l',O=some l/\J=some l'/\dJ l=some l')
  (hs:aN K Z st w a) (f:bY orc st d (.slice (ew P e) y L J)=some (v,st')) :
  Good P K Z st ((do pure (Next.value (<- Instr.sliceAt t (a.eval x) (Q.map a.eval) (O.map a.eval) none)):Sem Next).run P w) v st':=by
 have hr:=fH hx hs;obtain⟨inf,B⟩:=Ck.1 B;have al:inf.size=ew P e:=by simp[ew,Program.cellsOf,B]
 generalize ew P e=sz at *
 generalize a.eval x=X at hr ⊢;have G:∀ n,sP st L 0=some n->(Q.map a.eval=none/\n=0)\/∃ k,Q.map a.eval=some (.int k (n:Int)):=by
  intro n W;obtain⟨rfl,rfl⟩|⟨l,l',rfl,rfl,hl⟩:=bb
  .simp[sP]at W;exact .inl ⟨rfl,W.symm⟩
  .obtain⟨k,hk⟩:=yD W;have:=fH hl hs;rw[hk]at this;exact .inr ⟨k,by simp[this.dK]⟩
 have F:∀ j n,sP st J j=some n->(O.map a.eval=none/\n=j)\/∃ k,O.map a.eval=some (.int k (n:Int)):=by
  intro j n W;obtain⟨rfl,rfl⟩|⟨l,l',rfl,rfl,hl⟩:=av
  .simp[sP]at W;exact .inl ⟨rfl,W.symm⟩
  .obtain⟨k,hk⟩:=yD W;have:=fH hl hs;rw[hk]at this;exact .inr ⟨k,by simp[this.dK]⟩
 have z:∀ (H:Option Addr) (j c l h:Nat),((Q.map a.eval=none/\l=0)\/∃ k,Q.map a.eval=some (.int k (l:Int)))->((O.map a.eval=none/\h=j)\/∃ k,O.map a.eval=some (.int k (h:Int))) ->
   l<=h->h<=j->j<=c->(Instr.sliceAt t (.slice H j c) (Q.map a.eval) (O.map a.eval) none).run P w=.ok (.slice (if c=l then H else H.map (·.add (l*sz))) (h - l) (c - l)) w:=by
  intro H j c l h hl hh aw bo br;have c1:(l:Int)<=(h:Int):=by omega
  have c2:(h:Int)<=(c:Int):=by omega
  obtain⟨el,rfl⟩|⟨kl,el⟩:=hl<;>obtain⟨eh,rfl⟩|⟨kh,eh⟩:=hh<;>
   simp[Instr.sliceAt,Instr.slice,run_underlying h1,Instr.sliceBounds,Instr.sliceBound,asIntOf,el,eh,sizeOf,typeInfo,B,al,aw]<;>omega
 simp only[bY]at f;split at f
 .rename_i l es u E;rw[E]at hr;split at f
  .rename_i h r;split at f
   .rename_i A;simp only[cD,c5]at f;obtain⟨rfl,rfl⟩:=f;have S:=G l u;have R:=F _ h r;cases hr.cF with
    | rB H C =>
     simp at A;obtain⟨rfl,rfl⟩:l=0/\h=0:=by omega
     refine iH (z H 0 C 0 0 S (by simpa using R) (by omega) (by omega) (by omega)) hs ?_;simp only[List.drop_nil,List.take_nil];exact .p _ _ (.rB _ _)
    | sl _ b o C au T fr m aq m0 m1 m2 m3 m4 m5 m6 m7 =>
     refine iH (z _ _ C l h S R A.1 A.2.1 m6) hs ?_;have D:∀ e∈es,(PV.cells e).length=m:=λe f=>by rw[PV.bO (by rw[m2 e f];exact m1),m2 e f]
     have V:((es.drop l).take (h - l)).length=h - l:=by simp;omega
     by_cases h0:h - l=0
     .rw[h0,JJ];exact .p _ _ (.rB _ _)
     .have Y:C≠l:=by omega
      have ap:m=sz:=by
       have ao:es≠[]:=by rintro rfl;simp at A;omega
       obtain⟨q,hq⟩:=List.exists_mem_of_ne_nil _ ao;have:=List.all_eq_true.1 A.2.2.1 q hq;rw[<- m2 q hq];simpa using this
      subst ap;rw[bD Y];have ag:((es.drop l).take (h - l)).flatMap PV.cells=((es.flatMap PV.cells).drop (l*m)).take ((h - l)*m):=by rw[BX PV.cells m _ _ (λe f=>D e (kD f)),CW PV.cells m _ l D]
      have:=PRep.sl (M:=Z.M) ((es.drop l).take (h - l)) b (o+l*m) (C - l) au T fr m ((aq.drop (l*m)).take ((h - l)*m)) m0 m1
       (λe f=>m2 e (kD (iC f)))
       (λc A=>by rw[ag]at A;exact m3 c (kD (iC A)))
       (by rw[ag];exact(m4.drop _).take _)
       (λi y hy=>by
        rw[Cl]at hy;split at hy
        .rw[Cm]at hy;rw[Dg];exact m5 _ _ hy
        .cases hy)
       (by rw[V];omega) (by rw[V];omega)
      rw[V]at this;simpa only[Option.map_some,vB]using aQ.p _ _ this
   .cases f
  .cases f
 .rename_i l s g af j u E;rw[E]at hr;split at f
  .rename_i h r;split at f
   .rename_i ob ho;split at f
    .rename_i A;simp only[cD,c5]at f;obtain⟨rfl,rfl⟩:=f;have S:=G l u;have R:=F _ h r;cases hr with
     | d' _ _ o' e1 e2 =>
      obtain⟨rfl,rfl⟩:l=0/\h=0:=by omega
      refine iH (z none 0 0 0 0 S R (by omega) (by omega) (by omega)) hs ?_;simpa using aQ.d' s g o' e1 e2
     | own _ _ _ _ o' b H c e1 e2 e3 e4 e5 e6 =>
      rw[ho]at e1;cases e1;refine iH (z _ _ c l h S R A.1 A.2.1 e6) hs ?_;have U:∀ I,I=(if c=l then H else H.add (l*sz))->aQ Z st (.own s g (af+l) (h - l)) (.slice (some I) (h - l) (c - l)):=by
       intro I N;refine .own s g (af+l) (h - l) ob b I (c - l) ho e2 (λhz=>?_) (λbk=>?_) (by omega) (by omega)
       .obtain⟨rfl,rfl⟩:af=0/\l=0:=by omega
        obtain⟨f1,f2⟩:=e3 rfl;refine⟨?_,by omega⟩;rw[N,f1];split
        .rfl
        .simp[vB]
       .have Y:c≠l:=by omega
        rw[N,bD Y,e4 (by omega),vB,A.2.2.2,sT]
      have:=U _ rfl;by_cases D:c=l
      .simpa[D]using this
      .simpa[D]using this
     | eO _ _ _ _ _ _ _ e2=>exact(uH ho e2).elim
    .cases f
   .cases f
  .cases f
 .rename_i l u E;rw[E]at hr;split at f
  .rename_i h r;split at f
   .rename_i A;simp only[Option.some.injEq,Prod.mk.injEq]at f;obtain⟨rfl,rfl⟩:=f;obtain⟨rfl,rfl⟩:=A;have S:=G 0 u;have R:=F 0 0 r;cases hr;refine iH (z none 0 0 0 0 S R (by omega) (by omega) (by omega)) hs ?_;simpa using aQ.nil
   .cases f
  .cases f
 .cases f
end
section
variable {P:Program} {K:Ctx} {Z Z':Cz} {st st':St} {w w':World} {a:Act} {orc:Option bJ} {d:Nat} {v:AV}
theorem SM{l:List Value}:∀ (c i:Nat),i<c*l.length->(List.replicate c l).flatten[i]?=l[i % l.length]?
 | 0,i,h=>by simp at h
 | c+1,i,h=>by
  rw[Cj,List.flatten_cons];obtain b|b:=pW i l.length
  .rw[wN b,uM b]
  .rw[qG b,SM c (i - l.length) (by rw[Ah]at h;omega)]
   congr 1
   exact(Nat.mod_eq_sub_mod b).symm
def ye3{l:List Value}(c:Nat):(List.replicate c l).flatten.length=c*l.length:=by simp
def I8(z:Array Value)(c:Nat):(madeCells z (c*z.size)).toList=(List.replicate c z.toList).flatten:=by
 apply E6;intro i;obtain h|h:=pW i (c*z.size)
 .rw[SM c i (by omega)];have j:0<z.size:=by
   obtain b|b:=Ci z.size
   .grind
   .omega
  have f:=Ad i j;simp[madeCells,h,f]
 .rw[List.getElem?_eq_none (by simp[size_madeCells];omega),List.getElem?_eq_none (by rw[ye3];simpa using h)]
theorem B6(n:Nat)(e:AV):(List.replicate n e).flatMap AV.cells=(List.replicate n e.cells).flatten:=by
 induction n with
 | zero=>rfl
 | succ n b=>simp[Cj,b]
theorem Gw{cs:List AV}{xs:List Value}(h:aG Z st cs xs):∀ n,aG Z st (List.replicate n cs).flatten (List.replicate n xs).flatten
 | 0=>.nil
 | n+1=>by simp[Cj];exact h.append (Gw h n)
theorem K4(v:AV):v.uT.sz=v.sz:=by
 cases v with
 | agg b=>exact vA (.agg b)
 | _=>rfl
theorem yag{v:AV}{x:Value}(h:aQ Z st v x):aQ Z st v.uT x:=by
 cases v with
 | agg b=>exact FR (v:=.agg b) h
 | _=>exact h
def U3{t e:TypeId}{z:AV}{l c:Operand}{M J:bP}(A:P.underlying t=some (.slice e))(hz:oV P e=some z)(S:P.bytesOf e<=65536)
  (W:dJ l=some M) (C:dJ c=some J) (hs:aN K Z st w a) (u:bY orc st d (.cM (ew P e) z M J)=some (v,st')) :
  Good P K Z st ((do pure (Next.value (<- Instr.makeSlice t (a.eval l) (a.eval c))):Sem Next).run P w) v st':=by
 have r:=fH W hs;have p:=fH C hs;obtain⟨i,zx,D,G,I⟩:=zX hz;have b:i.size=ew P e:=by simp[ew,Program.cellsOf,D]
 have E:i.bytes<=65536:=by simpa[Program.bytesOf,D]using S
 generalize ew P e=N at *
 simp[bY]at u;split at u
 .rename_i n m Y X;split at u
  .rename_i C;obtain⟨k,h,s,hp⟩:=C;obtain⟨rfl,rfl⟩:=u;obtain⟨k1,Q⟩:=yD Y;obtain⟨k2,R⟩:=yD X;rw[Q]at r;rw[R]at p;rw[r.dK,p.dK];simp[eL]at h;have B:(i.bytes:Int)*(m:Int)<=281474976710656:=by have:i.bytes*m<=65536*2147483648:=mT E h;omega
   have hr:=run_make (P:=P) w t e i zx A D G k1 k2 (n:Int) (m:Int) (by omega) (by omega) B (by omega);have F:=yag (I Z st);obtain⟨O,y2,y3⟩:=F.cells (by rw[K4];omega);have H:zx.cells.size=i.size:=by have:=O.length;simp at this;rw[this,y2,K4,s,b]
   have f:madeCells zx.cells (m*i.size)=madeCells zx.cells (m*zx.cells.size):=by rw[H]
   have U:=hs.heap.alloc d ⟨N,List.replicate n z.uT⟩ (madeCells zx.cells (m*i.size)) e m (List.replicate n zx.cells.toList).flatten hp
    (λq x=>by rw[(Ch.1 x).2,K4,s])
    (λq x=>by
     rw[B6]at x;obtain⟨l,A,L⟩:=JH.1 x;rw[(Ch.1 A).2]at L;exact y3 q L)
    (by rw[B6];exact Gw O n)
    (by
     have o:(madeCells zx.cells (m*i.size)).toList=(List.replicate n zx.cells.toList).flatten++(List.replicate (m - n) zx.cells.toList).flatten:=by
      rw[f,I8,<- List.flatten_append,List.replicate_append_replicate]
      grind
     intro j y V;have:=CA o j y V;simpa using this)
    (by rw[size_madeCells,b]) (by simpa using k) (by simp[maxLen];omega)
   refine tN hr U ?_ (cP.alloc _ _ _ _ _ _);refine .own d _ 0 n ⟨N,List.replicate n z.uT⟩ w.heap.size _ m (by rw[lD,aX ⟨rfl,rfl⟩]) (by simp[Cz.bR]) (λ_=>⟨rfl,by simp[Cz.bR]⟩) (λ_=>by simp) (by simp) k
  .grind
 .grind
theorem Xz{mx:Bool}:∀ {vs:List AV} {xs:List Value} {r:PV},aG Z st vs xs->yh mx vs=some r ->
  ∃ k n,r=.int k n/\((if mx then Builtin.max_ #[] 0 xs.toArray else Builtin.min_ #[] 0 xs.toArray)).run P w=.ok (.int k n) w
 | [],_,_,_,h=>by simp[yh]at h
 | u::vs,_,r,.cons _ x _ xs A z,h=>by
  unfold yh at h;split at h
  .rename_i k a H e;cases e;rw[A.dK]
   have o:∀ (vs:List AV) (xs:List Value) (a:Int) (r:PV),aG Z st vs xs ->
     vs.foldlM (λi v=>match i,v with
      | PV.int k a,.p (.int s b)=>if k=s then some (PV.int k (if mx then(if b>a then b else a)else(if b<a then b else a)))else none
      | _,_=>none) (PV.int k a)=some r->∃ n,r=.int k n/\(xs.foldlM (if mx then Builtin.max2 else Builtin.min2) (.int k a)).run P w=.ok (.int k n) w:=by
    intro vs
    induction vs with
    | nil=>intro xs a r l h;cases l;simp at h;subst h;exact⟨a,rfl,by simp⟩
    | cons u vs C =>
     intro xs a r l h;cases l with
     | cons _ y _ D B m =>
      simp only[List.foldlM_cons,Option.bind_eq_bind]at h;split at h
      .rename_i G E s b t;cases t;split at h
       .rename_i F;obtain⟨n,j,f⟩:=C D _ r m h;refine⟨n,j,?_⟩;rw[B.dK];cases mx<;>simp_all[Builtin.max2,Builtin.min2]
       .simp at h
      .simp at h
   obtain⟨n,j,f⟩:=o vs xs a r z h;refine⟨k,n,j,?_⟩;cases mx<;>simp_all[Builtin.max_,Builtin.min_]
  .cases h
def Qu{mx:Bool}{args:Array TypeId}{ty:TypeId}{xs:Array Operand}{f:List bP}(j:oX xs.toList=some f)(hs:aN K Z st w a){r:PV}
  (h:yh mx (f.map st.ev)=some r) :
  Good P K Z st ((do pure (Next.value (<- (if mx then Builtin.max_ args ty (xs.map a.eval)else Builtin.min_ args ty (xs.map a.eval)))):Sem Next).run P w) (.p r) st:=by
 have i:=CJ j hs;obtain⟨k,n,rfl,b⟩:=Xz (P:=P) (w:=w) i h;refine iH ?_ hs (.p _ _ (.int k n));rw[<- b];have e:(List.map a.eval xs.toList).toArray=xs.map a.eval:=by simp[<- Array.toList_map]
 rw[e];cases mx<;>rfl
theorem Q7(off:Nat):∀ (vs:List Value) (j:Nat) (cells:Array Value),off+j+vs.length<=cells.size ->
  ((vs.zipIdx j).foldl (λcs (c,j)=>cs.setIfInBounds (off+j) c) cells).toList=cells.toList.take (off+j)++vs++cells.toList.drop (off+j+vs.length)
 | [],j,cells,_=>by simp
 | v::vs,j,cells,h=>by
  simp;simp at h;rw[Q7 off vs (j+1) _ (by simp;omega)];have e:=list_seg_step cells.toList (off+j) v vs (by omega)
  grind
def TG{place:Nat->Option (Nat × Nat)}{cells:Array Value}{i off sz:Nat}{x:Value}{r:List (Nat × Value)}(hp:place i=some (off,sz))(f:x.cells.size=sz)(b:off+sz<=cells.size) :
  ∃ cs:Array Value,cs.toList=cells.toList.take off++x.cells.toList++cells.toList.drop (off+sz)/\Instr.fill place cells ((i,x)::r)=Instr.fill place cs r:=by
 refine⟨x.cells.zipIdx.foldl (λcs (c,j)=>cs.setIfInBounds (off+j) c) cells,?_,?_⟩
 .rw[<- Array.foldl_toList];have:=Q7 off x.cells.toList 0 cells (by simp;omega)
  grind
 .simp[Instr.fill]
  grind
theorem MW{C:List (Nat × Nat)}{place:Nat->Option (Nat × Nat)}(j:∀ i x,C[i]?=some x->place i=some x):∀ {parts:List (Nat × Operand)} {l:List (Nat × Nat × bP)} {zero cs:List AV} {cells:Array Value},BW C parts=some l->aN K Z st w a ->
  aG Z st zero cells.toList->(∀ c∈zero,c.one=true)->A5 zero (l.map λ(o,s,x)=>(o,s,st.ev x))=some cs ->
  ∃ b:Array Value,Instr.fill place cells (parts.map λ(i,x)=>(i,a.eval x))=some b/\aG Z st cs b.toList/\∀ c∈cs,c.one=true
 | [],l,zero,cs,cells,h,t,k,n,f=>by
  simp[BW]at h;subst h;simp[A5]at f;subst f;exact⟨cells,by simp[Instr.fill],k,n⟩
 | (i,x)::parts,l,zero,cs,cells,h,t,k,n,f=>by
  simp[BW]at h;split at h
  .rename_i o s y N F H p;cases h;simp only[jH,A5]at f;split at f
   .rename_i B;have G:=fH H t;obtain⟨D,O,Q⟩:=G.cells (by omega);have A:=k.length;have u:=D.length;simp at A u;obtain⟨m,E,I⟩:=TG (place:=place) (cells:=cells) (i:=i) (off:=o) (sz:=s) (x:=a.eval x) (r:=parts.map λ(i,x)=>(i,a.eval x)) (j _ _ F) (by omega) (by omega);have z:aG Z st (zero.take o++(st.ev y).cells++zero.drop (o+s)) m.toList:=by rw[E];exact((k.take o).append D).append (k.drop (o+s))
    obtain⟨b,J,L,M⟩:=MW j p t z (λc B=>by
     obtain h|h:=dN.1 B
     .grind
     .exact n c (kD h)) f
    grind
   .grind
  .grind
def W6{t:TypeId}{o:Array Field}{parts:Array (Nat × Operand)}{n:List (Nat × Nat)}{z:AV}{l:List (Nat × Nat × bP)}(H:P.underlying t=some (.struct o))
  (A:(o.toList.mapM λ(f:Field)=>(P.info? f.type).map λi=>(f.offset,i.size))=some n) (B:oV P t=some z) (m:0<z.sz) (y:BW n parts.toList=some l) (hs:aN K Z st w a)
  (j:bY orc st d (.build z.cells l)=some (v,st')) :
  Good P K Z st ((do pure (Next.value (<- Instr.build t (parts.map λ(i,x)=>(i,a.eval x)))):Sem Next).run P w) v st':=by
 obtain⟨i,zx,I,C,k⟩:=zX B;simp[bY]at j;split at j
 .rename_i F u;obtain⟨rfl,rfl⟩:=j;obtain⟨D,J,E⟩:=(k Z st).cells m;obtain⟨b,G,p,r⟩:=MW (place:=(n.toArray[·]?)) (λi x h=>by simpa using h) (cells:=zx.cells) y hs D E u;have s:P.built t (parts.map λ(i,x)=>(i,a.eval x)).toList=some b:=by
   unfold Program.built
   simp_all
  exact iH (run_build w t _ b s) hs (by simpa using aQ.eQ r p)
 .grind
def Yj{t:TypeId}{n:Nat}{e:TypeId}{parts:Array (Nat × Operand)}{f:TypeInfo}{z:AV}{l:List (Nat × Nat × bP)}(I:P.underlying t=some (.array n e))
  (B:P.info? e=some f) (C:oV P t=some z) (p:0<z.sz) (A:BW ((List.range n).map λi=>(i*f.size,f.size)) parts.toList=some l) (hs:aN K Z st w a)
  (m:bY orc st d (.build z.cells l)=some (v,st')) :
  Good P K Z st ((do pure (Next.value (<- Instr.build t (parts.map λ(i,x)=>(i,a.eval x)))):Sem Next).run P w) v st':=by
 obtain⟨i,zx,J,D,o⟩:=zX C;simp[bY]at m;split at m
 .rename_i G y;obtain⟨rfl,rfl⟩:=m;obtain⟨E,L,F⟩:=(o Z st).cells p;obtain⟨b,H,r,s⟩:=MW (place:=λi=>some (i*f.size,f.size)) (λi x h=>by
   simp at h;obtain⟨j,k,rfl⟩:=h;have:=iU.1 k;obtain⟨_,k⟩:=this;simp at k;simp[k]) (cells:=zx.cells) A hs E F y
  have u:P.built t (parts.map λ(i,x)=>(i,a.eval x)).toList=some b:=by
   unfold Program.built
   simp_all
  exact iH (run_build w t _ b u) hs (by simpa using aQ.eQ s r)
 .grind
theorem Rw{sz:Nat}(hp:0<sz):∀ {parts:List (Nat × Operand)} {l:List (Nat × bP)} {es f:List AV} {cells:Array Value},Ek parts=some l->aN K Z st w a ->
  aG Z st (es.flatMap AV.cells) cells.toList->(∀ e∈es,e.sz=sz)->(∀ c∈es.flatMap AV.cells,c.one=true)->A4 es sz (l.map λ(i,x)=>(i,(st.ev x).ey))=some f ->
  ∃ b:Array Value,Instr.fill (λi=>some (i*sz,sz)) cells (parts.map λ(i,x)=>(i,a.eval x))=some b/\aG Z st (f.flatMap AV.cells) b.toList/\(∀ e∈f,e.sz=sz) /\
   (∀ c∈f.flatMap AV.cells,c.one=true)/\f.length=es.length
 | [],l,es,f,cells,h,B,o,s,z,j=>by
  simp[Ek]at h;subst h;simp[A4]at j;subst j;exact⟨cells,by simp[Instr.fill],o,s,z,rfl⟩
 | (i,x)::parts,l,es,f,cells,h,B,o,s,z,j=>by
  simp[Ek]at h;split at h
  .rename_i y V M A;cases h;simp only[jH,A4]at j;split at j
   .rename_i t;obtain⟨C,n⟩:=t;have L:=FR (fH M B);obtain⟨G,W,X⟩:=L.cells (by omega);have k:∀ e∈es,(AV.cells e).length=sz:=λe F=>by rw[AV.bO (by rw[s e F];exact hp),s e F]
    have p:=o.length;have D:=G.length;rw[wE AV.cells sz es k]at p;simp at p D;have I:i*sz+sz<=es.length*sz:=by rw[<- Nat.succ_mul];exact jU _ n
    obtain⟨u,H,N⟩:=TG (place:=λi=>some (i*sz,sz)) (cells:=cells) (i:=i) (off:=i*sz) (sz:=sz) (x:=a.eval x) (r:=parts.map λ(i,x)=>(i,a.eval x)) rfl (by omega) (by omega);have m:=Lc AV.cells sz es i (st.ev y).ey k n;have E:aG Z st ((es.set i (st.ev y).ey).flatMap AV.cells) u.toList:=by rw[H,m];exact((o.take _).append G).append (o.drop _)
    obtain⟨b,O,Q,R,S,U⟩:=Rw hp A B E (λq J=>by
      obtain h|h:=E5 J
      .grind
      .rw[h];exact C)
     (λc t=>by
      rw[m]at t;obtain h|h:=dN.1 t
      .grind
      .exact z c (kD h)) j
    grind
   .grind
  .grind
def Yi{t e:TypeId}{n:Nat}{parts:Array (Nat × Operand)}{z:AV}{l:List (Nat × bP)}(p:P.underlying t=some (.slice e))(hz:oV P e=some z)(hl:Ek parts.toList=some l)(hs:aN K Z st w a)
  (h:bY orc st d (.b4 (ew P e) z n l)=some (v,st')) :
  Good P K Z st ((do pure (Next.value (<- Instr.buildSlice t n (parts.map λ(i,x)=>(i,a.eval x)))):Sem Next).run P w) v st':=by
 obtain⟨i,zx,G,L,N⟩:=zX hz;have j:i.size=ew P e:=by simp[ew,Program.cellsOf,G]
 generalize ew P e=y at *
 simp only[bY]at h;split at h
 .rename_i X;obtain⟨u,B,ad⟩:=X;split at h
  .rename_i A Y;obtain⟨rfl,rfl⟩:=h;have J:=FR (N Z st);obtain⟨R,y2,y3⟩:=J.cells (by rw[vA];omega);have M:zx.cells.size=i.size:=by have:=R.length;simp at this;rw[this,y2,vA,u,j]
   have m:madeCells zx.cells (n*i.size)=madeCells zx.cells (n*zx.cells.size):=by rw[M]
   have k:aG Z st ((List.replicate n z.ey).flatMap AV.cells) (madeCells zx.cells (n*i.size)).toList:=by rw[m,I8,B6];exact Gw R n
   obtain⟨b,f1,O,E,V,W⟩:=Rw B hl hs k (λq C=>by rw[(Ch.1 C).2,vA,u])
    (λq C=>by
     rw[B6]at C;obtain⟨l,p,Q⟩:=JH.1 C;rw[(Ch.1 p).2]at Q;exact y3 q Q) Y
   have I:b.size=n*y:=by
    have p:=O.length;rw[wE AV.cells y A (λe h=>by rw[AV.bO (by rw[E e h];exact B),E e h])]at p
    grind
   have r:A.length=n:=by simpa using W
   have hh:=hs.heap.alloc d ⟨y,A⟩ b e n b.toList B E V O (by simp) I (by simp[r])
    (by simp[maxLen];have:n<=n*y:=JG n B;omega)
   have s:(Instr.buildSlice t n (parts.map λ(i,x)=>(i,a.eval x))).run P w=.ok (.slice (some ⟨w.heap.size,0,none⟩) n n) (w.alloc (.cells b e)):=by
    have f:Instr.fill (λo=>some (o*i.size,i.size)) (madeCells zx.cells (n*i.size)) (parts.map λ(i,x)=>(i,a.eval x)).toList=some b:=by
     simp_all
    have H:¬ (16777216<n*i.size):=by rw[j];omega
    by_cases F:n*i.size=0
    .rw[F]at f;have S:(madeCells zx.cells 0) = #[]:=by simp[madeCells]
     rw[S]at f;have D:Instr.fill (λo=>some (o*i.size,i.size)) #[] (List.map (λx=>(x.fst,a.eval x.snd)) parts.toList)=some b:=by
      grind
     have U:Array.map (λ(_:Nat)=>(default:Value)) (Array.range 0) = #[]:=by simp
     simp[Instr.buildSlice,run_underlying p,sizeOf,typeInfo,G,F,newRow,U,D]
    .simp only[madeCells]at f;simp only[Instr.buildSlice,run_underlying p,sizeOf,typeInfo,zeroValue,G,L,F,H,newRow,mW,qF,run_program,oJ,fQ,Nat.reducePow,gt_iff_lt,f,run_newObj];simp
   refine tN s hh ?_ (cP.alloc _ _ _ _ _ _);exact .own d _ 0 n ⟨y,A⟩ w.heap.size _ n (by rw[lD,aX ⟨rfl,rfl⟩]) (by simp[Cz.bR]) (λ_=>⟨rfl,by simp[Cz.bR]⟩) (λ_=>by simp) (by simp[r]) (dE _)
  .cases h
 .cases h
def RH{f:BinOp}{t:TypeId}{x y:Operand}{ad b:Option Addr}{n c i h:Nat}:eqGuard f t x y (.slice ad n c) (.slice b i h)=pure ():=by cases f<;>rfl
def Xb{u:BinOp}{t e:TypeId}{x y:Operand}{C D:bP}{o:c7}(N:P.underlying t=some (.slice e))(O:dJ x=some C)(Q:dJ y=some D)(E:CD u C D=some o)(hs:aN K Z st w a)
  (j:bY orc st d o=some (v,st')) :
  Good P K Z st ((do pure (Next.value (<- (do eqGuard u t x y (a.eval x) (a.eval y);binOp u t (a.eval x) (a.eval y)))):Sem Next).run P w) v st':=by
 have m:=fH O hs;have z:=fH Q hs;obtain⟨f,rfl,rfl,B⟩:∃ f,D=.c .nil/\o=.ic f C/\((u=.eql/\f=false)\/(u=.neq/\f=true)):=by
  unfold CD at E;split at E
  .grind
  .grind
  .grind
 have J:a.eval y=.slice none 0 0:=by generalize a.eval y=Y at z;cases z;rfl
 rw[J];have A:∀ (k:Option Addr) (n c:Nat),(Op.equal t (.slice k n c) (.slice none 0 0)).run P w=.ok k.isNone w:=by intro k n c;unfold Op.equal Op.maxDepth;rw[Op.equalIn.eq_def];cases k<;>simp[run_underlying N]
 have l:∀ (k:Option Addr) (n c:Nat),a.eval x=.slice k n c ->
   Good P K Z st ((do pure (Next.value (<- (do eqGuard u t x y (a.eval x) (.slice none 0 0);binOp u t (a.eval x) (.slice none 0 0)))):Sem Next).run P w) (.p (.bool (if f then !k.isNone else k.isNone))) st:=by
  intro k n c I;rw[I];have L:(do eqGuard u t x y (.slice k n c) (.slice none 0 0);binOp u t (.slice k n c) (.slice none 0 0):Sem Value).run P w=.ok (.bool (if f then !k.isNone else k.isNone)) w:=by
   obtain⟨rfl,rfl⟩|⟨rfl,rfl⟩:=B
   .simp[RH,binOp,A]
   .simp[RH,binOp,A]
  exact iH L hs (.p _ _ (.bool _))
 simp only[bY]at j;generalize h:a.eval x=X at m;split at j
 .rename_i i;rw[i]at m;cases m;simp only[Option.some.injEq,Prod.mk.injEq]at j;obtain⟨rfl,rfl⟩:=j;have:=l none 0 0 h;cases f<;>simpa[h]using this
 .rename_i i;rw[i]at m;cases m.cF with
  | nl r =>
   simp only[Option.some.injEq,Prod.mk.injEq]at j;obtain⟨rfl,rfl⟩:=j;have:=l none 0 r h;cases f<;>simpa[h]using this
 .rename_i i;rw[i]at m;cases m.cF with
  | sle k r =>
   simp only[Option.some.injEq,Prod.mk.injEq]at j;obtain⟨rfl,rfl⟩:=j;have:=l (some k) 0 r h;cases f<;>simpa[h]using this
 .rename_i i;rw[i]at m;simp only[cD,c5]at j;obtain⟨rfl,rfl⟩:=j;cases m.cF with
  | sl _ b o r G T fr U F m0 m1 m2 m3 m4 m5 m6 =>
   have:=l _ _ _ h;cases f<;>simpa[h]using this
 .rename_i s g S R i;rw[i]at m;split at j
  .rename_i o M;split at j
   .rename_i hl;simp only[cD,c5]at j;obtain⟨rfl,rfl⟩:=j;cases m with
    | d'=>omega
    | own _ _ _ _ o' b k c V W e3 e4 e5 e6 =>
     have:=l _ _ _ h;cases f<;>simpa[h]using this
    | eO _ _ _ _ _ _ _ H=>exact(uH M H).elim
   .cases j
  .cases j
 .cases j
def yg0{args:Array TypeId}{ty:TypeId}{x:Operand}{y:bP}(k:uE (args[0]?.bind P.underlying)=true)(s:dJ x=some y)(hs:aN K Z st w a)(h:bY orc st d (.cap y)=some (v,st')) :
  Good P K Z st ((do pure (Next.value (<- Builtin.cap_ args ty #[a.eval x])):Sem Next).run P w) v st':=by
 have j:=fH s hs;obtain⟨t,e,l,m⟩:∃ t e,args[0]?=some t/\P.underlying t=some (.slice e):=by
  cases f:args[0]? with
  | none=>simp[f,uE]at k
  | some t =>
   cases o:P.underlying t with
   | none=>simp[f,o,uE]at k
   | some d=>cases d<;>simp[f,o,uE]at k;exact⟨t,_,rfl,o⟩
 have b:∀ r n c,(Builtin.cap_ args ty #[.slice r n c]).run P w=.ok (.int .i64 c) w:=by simp[Builtin.cap_,l,run_underlying m,goInt]
 generalize a.eval x=X at j ⊢;simp[bY]at h;split at h
 .rename_i i;rw[i]at j;cases j;obtain⟨rfl,rfl⟩:=h;exact iH (b _ _ _) hs (.p _ _ (.int _ _))
 .grind
def bG.oM(h:bG K Z st w){s g:Nat}{o:bI}(j:st.obj s g=some o):bG K Z (st.setObj s g o) w/\cP Z st Z (st.setObj s g o):=by
 have hz:=cP.setObj Z st s g o o j rfl rfl;have f:∀ {s' g':Nat} {o':bI},(st.setObj s g o).obj s' g'=some o'->st.obj s' g'=some o':=by
  intro s' g' o' k;rw[vF _ _ _ _ _ _ (nQ j)]at k;split at k
  .grind
  .omega
 exact⟨⟨λs' g' o' i=>(h.bT s' g' o' (f i)).later hz rfl rfl (λ_ _=>rfl),λ_ _ _ _ _ _ b a1 l=>h.inj _ _ _ _ _ _ b (f a1) (f l),h.mem,λ_ _ _ b a1=>h.sep _ _ _ b (f a1),λ_ _ _ b a1=>h.own _ _ _ b (f a1),h.m0,h.eM,h.keep⟩,hz⟩
def W7{A:Array TypeId}{t ty e:TypeId}{x:Operand}{x':bP}{z:AV}(hA:A[0]?=some t)(ht:P.underlying t=some (.slice e))(hz:oV P e=some z)(hx:dJ x=some x')(hs:aN K Z st w a)
  (F:bY orc st d (.clear (ew P e) z x')=some (v,st')) :
  Good P K Z st ((do pure (Next.value (<- Builtin.clear_ A ty #[a.eval x])):Sem Next).run P w) v st':=by
 have W:=fH hx hs;obtain⟨i,zx,hi,av,bb⟩:=zX hz;generalize ew P e=D at *
 generalize a.eval x=X at W ⊢;have B:∀ G c,(Builtin.clear_ A ty #[.slice G 0 c]).run P w=.ok (.tuple #[]) w:=by intro G c;cases G<;>simp[Builtin.clear_,hA,run_underlying ht]
 simp only[bY]at F;split at F
 .rename_i O;rw[O]at W;cases W;obtain⟨rfl,rfl⟩:=F;exact iH (B _ _) hs (.bM _ _ .nil)
 .rename_i s g j f O;rw[O]at W;split at F
  .rename_i o Q;split at F
   .rename_i hc;obtain⟨ap,u,R⟩:=hc;obtain⟨rfl,rfl⟩:=F;have E:=hs.heap.bT s g o Q;have M:∀ es,es=o.es->∀ G c,X=.slice G 0 c->Good P K Z st ((do pure (Next.value (<- Builtin.clear_ A ty #[X])):Sem Next).run P w) (.bM []) (st.setObj s g ⟨o.sz,es⟩):=by rintro es rfl G c rfl;exact tN (B G c) (hs.heap.oM Q).1 (.bM _ _ .nil) (hs.heap.oM Q).2
    cases W with
    | d' _ _ o' e1 e2=>exact M _ (by simp) _ _ rfl
    | eO _ _ _ _ _ _ _ S=>exact(uH Q S).elim
    | own _ _ _ _ o' b G c e1 e2 e3 e4 e5 e6 =>
     rw[Q]at e1;cases e1;obtain h0|h0:=Ci f
     .subst h0;exact M _ (by simp) _ _ rfl
     .have al:=e4 h0;subst al;obtain⟨k,T,p,k1,k2,k3,k4,k5,k6⟩:=E.bX b e2;have aq:=FR (bb Z st);obtain⟨y1,y2,y3⟩:=aq.cells (by rw[vA,R,<- u];exact E.pos);have aw:zx.cells.size=D:=by have:=y1.length;simp at this;rw[this,y2,vA,R]
      have N:∀ q∈o.es,(AV.cells q).length=o.sz:=λq C=>by rw[AV.bO (by rw[E.iI q C];exact E.pos),E.iI q C]
      have ag:=k2.length;rw[wE AV.cells o.sz o.es N]at ag;have au:(Builtin.zeroCells zx.cells f).toList=(List.replicate f zx.cells.toList).flatten:=I8 zx.cells f;have J:aG Z st ((List.replicate f z.ey).flatMap AV.cells) (Builtin.zeroCells zx.cells f).toList:=by rw[au,B6];exact Gw y1 f
      have r:(Builtin.zeroCells zx.cells f).toList.length=f*D:=by simp[Builtin.zeroCells,aw]
      have I:∀ q∈(List.replicate f z.ey).flatMap AV.cells,q.one=true:=λq C=>by rw[B6]at C;obtain⟨l,h1,S⟩:=JH.1 C;rw[(Ch.1 h1).2]at S;exact y3 q S
      obtain⟨L,y⟩:=Hv k3;have H:k.size=(p++L).length:=by rw[<- y];simp
      have bk:j*o.sz+f*D<=p.length:=by rw[ag,u,<- Nat.add_mul];exact jU _ ap
      have af:=run_storeCells_at P b (j*o.sz) T (Builtin.zeroCells zx.cells f).toList 0 k w k1 (by rw[H,r];simp;omega) (Gx J I);simp only[uO,r]at af;have Y:(Builtin.clear_ A ty #[.slice (some ⟨b,j*o.sz,none⟩) f c]).run P w=.ok (.tuple #[]) (w.setRow b (k.toList.take (j*o.sz)++(Builtin.zeroCells zx.cells f).toList++k.toList.drop (j*o.sz+f*D)).toArray):=by obtain⟨m,rfl⟩:∃ m,f=m+1:=⟨f - 1,by omega⟩;simp[Builtin.clear_,hA,run_underlying ht,zeroValue,typeInfo,hi,av,af]
      have V:k.toList.take (j*o.sz)++(Builtin.zeroCells zx.cells f).toList++k.toList.drop (j*o.sz+f*D)=(p.take (j*o.sz)++(Builtin.zeroCells zx.cells f).toList++p.drop (j*o.sz+f*D))++L:=by rw[y,De (by omega),E7 (by omega)];simp[sI]
      have U:(o.es.take j++List.replicate f z.ey++o.es.drop (j+f)).flatMap AV.cells=(o.es.flatMap AV.cells).take (j*o.sz)++(List.replicate f z.ey).flatMap AV.cells++(o.es.flatMap AV.cells).drop (j*o.sz+f*D):=by have h1:∀ n,(o.es.take n).flatMap AV.cells=(o.es.flatMap AV.cells).take (n*o.sz):=λn=>BX AV.cells o.sz o.es n N;have S:∀ n,(o.es.drop n).flatMap AV.cells=(o.es.flatMap AV.cells).drop (n*o.sz):=λn=>CW AV.cells o.sz o.es n N;rw[Ag,Ag,h1,S,u,sT]
      have hh:=hs.heap.setObj Q e2 (o.es.take j++List.replicate f z.ey++o.es.drop (j+f)) (k.toList.take (j*o.sz)++(Builtin.zeroCells zx.cells f).toList++k.toList.drop (j*o.sz+f*D)).toArray
       (p.take (j*o.sz)++(Builtin.zeroCells zx.cells f).toList++p.drop (j*o.sz+f*D))
       (λq C=>by
        obtain h|h:=dN.1 C
        .obtain h|h:=dN.1 h
         .exact E.iI q (iC h)
         .rw[(Ch.1 h).2,vA,R,u]
        .exact E.iI q (kD h))
       (λq C=>by
        rw[U]at C;obtain h|h:=dN.1 C
        .obtain h|h:=dN.1 h
         .exact E.one q (iC h)
         .exact I q h
        .exact E.one q (kD h))
       (by simp;omega)
       (by rw[U];exact((k2.take _).append J).append (k2.drop _))
       (CA V)
       (by
        have ao:k.toList.length=k.size:=by simp
        have:(k.toList.take (j*o.sz)++(Builtin.zeroCells zx.cells f).toList++k.toList.drop (j*o.sz+f*D)).length=k.size:=by simp only[gQ,fY,lp,ao,r];rw[H];simp;omega
        simp only[GX,this];exact k4)
      exact tN Y hh (.bM _ _ .nil) (cP.setObj Z st s g o _ Q rfl (by simp;omega))
   .cases F
  .cases F
 .cases F
end
end Go.Ab
