/- Lemmas for the law ComposeBuildsMadeModels, part 0. No conditions. -/
import Derived.Calls
import Derived.Orders
import Derived.Laws.AppendOwn
import Derived.Laws.MakeOwn
set_option maxRecDepth 100000
set_option maxHeartbeats 4000000
set_option linter.all false
namespace Go.Ab
def aW:=@if_pos
def aY:=@if_neg
def bV:=@List.getElem_mem
def bY:=@List.mem_cons
def cB:=@if_true
def cD:=@List.mem_map
def cF:=@Option.some.injEq
def dA:=@Prod.mk.injEq
def dF:=@List.getElem?_eq_getElem
def dK:=@Nat.le_refl
def dP:=@Nat.le_trans
def dT:=@List.mem_append
def ed:=@List.take_succ_eq_append_getElem
def eT:=@List.getD_eq_getElem?_getD
def fK:=@List.take_of_length_le
def fQ:=@if_false
def gL:=@List.length_append
def gJ:=@Bool.false_eq_true
def lO:=@List.take_length
def iC:=@Nat.lt_of_lt_of_le
def iB:=@List.length_take
def iR:=@List.getElem?_eq_some_iff
def jA:=@List.mem_of_mem_take
def ju:=@Bool.eq_false_or_eq_true
def jH:=@List.map_cons
def jG:=@List.flatMap_cons
def jF:=@List.mem_singleton
def kE:=@Nat.pow_succ
def rM:=@Nat.pow_add
def kv:=@List.mem_flatMap
def kq:=@Bool.and_eq_true
def kD:=@Nat.mul_le_mul_right
def kR:=@List.all_eq_true
def kQ:=@Int.toNat_natCast
def lu:=@List.mem_of_mem_drop
def lp:=@List.length_drop
def k8:=@List.mem_filter
def kZ:=@List.append_nil
def mN:=@List.not_mem_nil
def pS:=@Nat.mul_assoc
def mM:=@List.pairwise_cons
def mT:=@Sem.run_bind
def oJ:=@List.take_append_drop
def mS:=@Nat.mul_le_mul
def nQ:=@List.length_filter_le
def oI:=@Sem.run_pure
def oH:=@Nat.mul_comm
def uK:=@List.append_assoc
def oR:=@Nat.lt_of_le_of_lt
def pR:=@Nat.lt_or_ge
def pQ:=@List.length_cons
def pP:=@Nat.pow_le_pow_right
def pO:=@Rat.add_zero
def pN:=@List.lt_irrefl
def qC:=@List.getElem?_append_right
def qB:=@Result.andThen_ok
def wj:=@List.drop_drop
def qY:=@List.map_append
def qW:=@Nat.zero_add
def qV:=@List.eq_nil_of_length_eq_zero
def qU:=@Nat.pow_pos
def rL:=@List.length_map
def wi:=@Nat.add_mul
def rK:=@Nat.zero_le
def sG:=@Array.getElem?_eq_some_iff
def sF:=@Nat.mul_add
def sQ:=@List.mem_iff_getElem
def tV:=@List.mem_cons_of_mem
def uJ:=@List.nil_append
def uI:=@Nat.mod_eq_of_lt
def uH:=@List.nodup_cons
def uG:=@Nat.mul_lt_mul''
def vB:=@Nat.add_zero
def vA:=@List.map_congr_left
def vy:=@List.pairwise_append
def vx:=@List.getElem?_set
def vw:=@List.drop_eq_getElem_cons
def wh:=@List.getElem?_append_left
def wg:=@List.mem_of_getElem?
def wc:=@Nat.min_eq_left
def wa:=@Option.map_eq_some_iff
def v8:=@Ne.symm
def v7:=@List.filter_append
def vZ:=@List.range_succ
def yL:=@Nat.succ_mul
def xr:=@List.drop_of_length_le
def xq:=@List.cons_append
def xp:=@Option.getD_some
def yK:=@Rat.add_assoc
def xP:=@List.mem_range
def yJ:=@List.drop_zero
def yI:=@List.map_map
def yH:=@Nat.mod_lt
def Bk:=@List.flatMap_append
def yG:=@Nat.div_eq_of_lt
def yF:=@Nat.mul_le_mul_left
def yE:=@Nat.mul_ne_zero
def yD:=@List.foldl_append
def z6:=@Nat.le_of_lt
def zZ:=@Nat.le_of_eq
def Bj:=@List.getElem?_drop
def Bi:=@List.getElem?_take
def Ce:=@Nat.add_assoc
def Bh:=@List.replicate_succ
def Bg:=@List.mem_replicate
def Bf:=@List.mapM_cons
def Be:=@Nat.mul_pos
def Bd:=@Nat.div_le_self
def Bc:=@Rat.zero_add
def Bb:=@Rat.add_comm
def Ba:=@List.lt_trans
def Cd:=@Rat.not_lt
def A9:=@Nat.dvd_trans
def A8:=@List.eq_of_mem_replicate
def Cc:=@Option.isSome_iff_exists
def Cb:=@Nat.eq_zero_or_pos
def Ca:=@List.length_pos_iff
def B':=@Bool.or_eq_true
def B9:=@Nat.sub_self
def Mp:=@Nat.div_div_eq_div_mul
def B8:=@Nat.div_lt_iff_lt_mul
def B7:=@List.set_append_right
def B6:=@Nat.pos_of_ne_zero
def B5:=@List.foldl_cons
def B4:=@List.ext_getElem
def B3:=@List.concat_eq_append
def B1:=@Int.emod_nonneg
def B0:=@Int.emod_lt_of_pos
def BZ:=@List.mem_append_left
def D0:=@List.take_append_of_le_length
def DZ:=@List.ext_getElem?
def DY:=@List.mem_or_eq_of_mem_set
def yqx:=@Array.toList_map
def DX:=@Option.map_some
def DW:=@List.contains_iff_mem
def DV:=@Oper.upon_enter
def DU:=@Array.getElem?_eq_none
def DT:=@List.getElem?_eq_none
def DR:=@Array.mapM_eq_mapM_toList
def DQ:=@List.map_set
def DP:=@List.getElem_map
def DO:=@List.drop_eq_nil_of_le
def DN:=@List.filter_cons
def FL:=@List.set_cons_zero
def FK:=@List.drop_append_of_le_length
def FJ:=@Nat.add_sub_cancel
def SR:=@Array.length_toList
def FI:=@List.take_take
def FH:=@List.take_succ_cons
def FG:=@Bool.and_self
def FF:=@List.nodup_append
def FE:=@List.getElem?_map
def SQ:=@Nat.pow_mul
def FD:=@Nat.div_add_mod
def FC:=@Nat.pos_iff_ne_zero
def FB:=@List.filterMap_cons
def Fz:=@List.eq_nil_or_concat
def Fy:=@Decidable.byContradiction
def Iv:=@Nat.zero_mul
def Iu:=@List.take_zero
def It:=@List.drop_take
def Is:=@List.size_toArray
def Ir:=@List.mem_flatten
def Iq:=@Nat.le_mul_of_pos_right
def Ip:=@List.Pairwise.sublist
def Io:=@Array.getD_eq_getD_getElem?
def Im:=@List.Pairwise.imp_of_mem
def Il:=@List.map_nil
def Ik:=@Nat.add_mul_div_left
def Ij:=@Nat.le_div_iff_mul_le
def Ii:=@List.findIdx?_eq_none_iff
def Ih:=@List.findIdx?_eq_some_iff_getElem
def Ig:=@List.length_eq_one_iff
def Ie:=@Nat.le_mul_of_pos_left
def Ic:=@Rat.mkRat_self
def Ib:=@Bool.true_and
def SP:=@Rat.sub_eq_add_neg
def Ia:=@Nat.pow_lt_pow_right
def H':=@List.getElem_of_mem
def H9:=@List.take_sublist
def Mo:=@Option.some.inj
def H8:=@List.filter_eq_self
def H7:=@List.length_singleton
def H6:=@Nat.mul_div_le
def H5:=@Nat.dvd_mul_right
def H4:=@Nat.dvd_mul_left
def H3:=@List.cons_lt_cons_iff
def H0:=@List.getElem?_replicate
def HZ:=@List.count_le_length
def Mn:=@List.drop_succ_cons
def Mm:=@List.exists_mem_of_ne_nil
def Ml:=@List.append_of_mem
def Mk:=@Nat.lt_trichotomy
def Mj:=@Array.getElem?_replicate
def Mi:=@Bool.not_eq_true'
def Mh:=@Nat.or_lt_two_pow
def Mg:=@Int.eq_ofNat_of_zero_le
def Mf:=@Nat.eq_zero_of_not_pos
def Me:=@Nat.add_mul_mod_self_left
def Md:=@List.drop_set_of_lt
def Mc:=@List.replicate_succ'
def Mb:=@Nat.gcd_pos_of_pos_left
def Ma:=@List.getElem_cons_zero
def L':=@List.pairwise_iff_getElem
def L9:=@List.pairwise_map
def L8:=@Nat.pow_le_pow_left
def L7:=@List.getElem_range
def SO:=@List.eq_nil_iff_forall_not_mem
def SN:=@Array.getElem?_setIfInBounds_self
inductive PV where
 | bool (b:Bool)
 | int (k:IntKind) (n:Int)
 | str (s:ByteArray)
 | sl (es:List PV)
 | agg (cs:List PV)
 | fn (f:FuncId) (gW:List PV)
 | ref (v:PV)
 | aK
 | bP (vs:List PV)
 | any
 | nl
 | sle
 | fH (r:Nat)
 | wN (r:Nat)
 | mp (r:Nat) (ks vs:List PV)
 deriving Inhabited
inductive AV where
 | p (v:PV)
 | nil
 | own (s g off len:Nat)
 | ptr (s g ix off:Nat)
 | cp (v:PV) (vC off:Nat)
 | agg (cs:List AV)
 | fn (f:FuncId) (gW:List AV)
 | bP (vs:List AV)
 | skip
 | undef
 deriving Inhabited
def PV.cells:PV->List PV
 | .agg cs=>cs
 | v=>[v]
def AV.cells:AV->List AV
 | .p (.agg cs)=>cs.map .p
 | .agg cs=>cs
 | v=>[v]
def PV.one:PV->Bool
 | .agg _ | .bP _=>false
 | _=>true
def AV.one:AV->Bool
 | .p v=>v.one
 | .agg _ | .bP _ | .skip | .undef=>false
 | _=>true
def PV.sz:PV->Nat
 | .agg cs=>if cs.length<=1 then 0 else cs.length
 | .bP _=>0
 | _=>1
def AV.sz:AV->Nat
 | .p v=>v.sz
 | .agg cs=>if cs.length<=1 then 0 else cs.length
 | .bP _ | .skip | .undef=>0
 | _=>1
def uU:List AV->Option (List PV)
 | []=>some []
 | .p v::r=>match uU r with
  | some a=>some (v::a)
  | none=>none
 | _::_=>none
def eJ(cs:List AV):AV :=
 match uU cs with
 | some a=>.p (.agg a)
 | none=>.agg cs
def PV.xY(v:PV)(off sz:Nat)(ag:Bool):Option PV :=
 if ag then(if ((v.cells.drop off).take sz).length=sz/\1<sz then some (.agg ((v.cells.drop off).take sz))else none)
 else if sz=1 then((v.cells.drop off).take 1).head? else none
def AV.xY(v:AV)(off sz:Nat)(ag:Bool):Option AV :=
 if ag then(if ((v.cells.drop off).take sz).length=sz/\1<sz then some (eJ ((v.cells.drop off).take sz))else none)
 else if sz=1 then((v.cells.drop off).take 1).head? else none
def AV.iZ:AV->Option (List AV)
 | .p (.agg cs)=>some (cs.map .p)
 | .agg cs=>some cs
 | _=>none
def sT(cs:List AV)(off sz:Nat)(a:Bool):Option AV :=
 if a then(if ((cs.drop off).take sz).length=sz/\1<sz then some (eJ ((cs.drop off).take sz))else none)
 else if sz=1 then((cs.drop off).take 1).head? else none
def AV.rR(v:AV)(off:Nat)(x:AV):Option AV :=
 if off+x.cells.length<=v.cells.length/\1<v.cells.length then
  some (eJ (v.cells.take off++x.cells++v.cells.drop (off+x.cells.length)))else none
structure bD where
 sz:Nat
 es:List AV
def look{α : Type}(l:List (Nat × α))(t:Nat)(d : α) : α :=
 match l with
 | []=>d
 | (k,v)::r=>if k=t then v else look r t d
structure St where
 sl:List (Nat × AV)
 hp:List (Nat × List (Option bD))
def St.get(st:St)(t:Nat):AV:=look st.sl t .undef
def St.site(st:St)(s:Nat):List (Option bD):=look st.hp s []
def St.obj(st:St)(s g:Nat):Option bD:=((st.site s)[g]?).getD none
def St.put(st:St)(d:Option Nat)(v:AV):St :=
 match d with
 | some t=>{ st with sl:=(t,v)::st.sl }
 | none=>st
inductive bL where
 | t (n:Nat)
 | c (v:AV)
def St.ev(st:St):bL->AV
 | .t n=>st.get n
 | .c v=>v
def eS:Nat:=2147483648
def bE(st:St):Nat->AV->Option PV
 | 0,v=>if v.one then some .any else none
 | n+1,v=>match v with
  | .p v=>some v
  | .nil=>some (.sl [])
  | .own s g a d=>match st.obj s g with
   | some o=>if a+d<=o.es.length then(((o.es.drop a).take d).mapM (bE st n)).map .sl else none
   | none=>none
  | .ptr s g i a=>if i=0/\a=0 then match st.obj s g with
   | some o=>match o.es with
    | [e]=>(bE st n e).map .ref
    | _=>none
   | none=>none
   else none
  | .cp v _ a=>if a=0 then some (.ref v)else none
  | .agg h=>(h.mapM (bE st n)).map .agg
  | .fn f b=>(b.mapM (bE st n)).map (.fn f)
  | .bP j=>(j.mapM (bE st n)).map .bP
  | .skip | .undef=>none
def aO(st:St):Nat->AV->List (Nat × Nat)
 | 0,_=>[]
 | n+1,v=>match v with
  | .own s g _ _=>(s,g)::(match st.obj s g with
   | some o=>o.es.flatMap (aO st n)
   | none=>[])
  | .ptr s g _ _=>(s,g)::(match st.obj s g with
   | some o=>o.es.flatMap (aO st n)
   | none=>[])
  | .agg b=>b.flatMap (aO st n)
  | .fn _ a=>a.flatMap (aO st n)
  | .bP d=>d.flatMap (aO st n)
  | _=>[]
def aZ:Nat:=6
def PV.rD:PV->Bool
 | .bool _ | .int _ _ | .str _ | .aK | .any=>true
 | _=>false
def PV.flat:PV->Bool
 | .agg cs=>cs.all PV.rD
 | v=>v.rD
def PV.unit:PV->Bool
 | .bP []=>true
 | _=>false
inductive c7 where
 | mv (x:bL)
 | pick (c a b:bL)
 | alloc (sz:Nat) (zero:AV)
 | box (sz:Nat) (x:bL)
 | build (zero:List AV) (parts:List (Nat × Nat × bL))
 | b0 (sz:Nat) (zero:AV) (n:Nat) (parts:List (Nat × bL))
 | load (sz:Nat) (ag:Bool) (x:bL)
 | store (sz:Nat) (a v:bL)
 | bT (x:bL)
 | dH (op:BinOp) (x y:bL)
 | gD (op:BinOp) (x y:bL)
 | jZ (ks:List (Option IntKind)) (op:BinOp) (x y:bL)
 | not (x:bL)
 | neg (x:bL)
 | tA (x:bL)
 | conv (k:IntKind) (x:bL)
 | jK (f:FuncId) (gW:List bL)
 | cJ (sz:Nat) (zero:AV) (len cap:bL)
 | slice (sz:Nat) (x:bL) (lo hi:Option bL)
 | iK (off:Nat) (x:bL)
 | field (off sz:Nat) (ag:Bool) (x:bL)
 | cE (sz:Nat) (x i:bL)
 | cK (n sz:Nat) (x i:bL)
 | idx (n sz:Nat) (ag:Bool) (x i:bL)
 | extract (x:bL) (i:Nat)
 | len (x:bL)
 | append (sz:Nat) (a x:bL)
 | min (xs:List bL)
 | max (xs:List bL)
 | call (f:FuncId) (args:List bL)
 | gS (f:bL) (args:List bL)
 | iI (neg:Bool) (x:bL)
 | cap (x:bL)
 | clear (sz:Nat) (zero:AV) (x:bL)
 | eZ (sz:Nat) (zero:AV) (a n:bL)
 | qG (x i:bL)
 | lW (qs:List IntKind) (zero:AV) (x k:bL)
 | jW (qs:List IntKind) (zero:AV) (x k:bL)
 | raw (op:Op)
 | bad
structure Ins where
 dst:Option Nat
 op:c7
 guard:Option (Nat × Bool)
inductive AC where
 | iX
 | cY (ops:List Ins)
 | fM (ops:List Ins) (pre:List (List Nat))
 | seq (a b:AC)
 | cond (c:bL) (a b:AC)
 | bU (id:Nat) (b:AC)
 | loop (b:AC)
 | Cm (b:AC)
 | ext (id:Nat)
 | ret
 | bad
def tE:List PV->List PV->Bool
 | [],[]=>true
 | .int k a::r,.int d b::s=>decide (k=d)&&decide (a=b)&&tE r s
 | _,_=>false
def oD(kc:List PV):List PV->List PV->Option PV
 | .agg c::a,v::b=>if tE c kc=true then some v else oD kc a b
 | _::a,_::b=>oD kc a b
 | _,_=>none
def j':List IntKind->List PV->Bool
 | [],[]=>true
 | q::a,.int k n::r=>decide (k=q)&&(Lit.int k n).wf&&j' a r
 | _,_=>false
def su(a:List IntKind):PV->Bool
 | .agg c=>j' a c
 | _=>false
abbrev Site:=Nat × List (Option bD)
inductive HV
 | av (v:AV)
 | fr (sz:Nat) (es:List PV)
 | bx (sz:Nat) (e:AV) (us:List PV)
inductive RV where
 | pure (v:PV)
 | fresh (sz:Nat) (es:List PV)
 | same (len:Nat)
 | oa (vs:List AV) (hp:List Site) (res:HV) (iJ:List Site)
def PV.nL(v:PV):Bool:=v.flat||v.unit
def RV.flat:RV->Bool
 | .pure v=>v.nL
 | .fresh _ es=>es.all PV.flat
 | .same _=>true
 | .oa _ _ _ _=>true
structure bI where
 f:FuncId
 args:List PV
 res:RV
 tn:Option (Nat × Nat × List PV):=none
def AA(d:BinOp)(k:IntKind)(a b:Int):Option PV :=
 match d with
 | .add=>some (.int k (k.wrap (a+b)))
 | .sub=>some (.int k (k.wrap (a - b)))
 | .mul=>some (.int k (k.wrap (a*b)))
 | .quo=>if b=0 then none else some (.int k (k.wrap (a.tdiv b)))
 | .rem=>if b=0 then none else some (.int k (a.tmod b))
 | .and=>some (.int k (k.wrap (BitVec.ofInt k.bits a &&& BitVec.ofInt k.bits b).toNat))
 | .or=>some (.int k (k.wrap (BitVec.ofInt k.bits a ||| BitVec.ofInt k.bits b).toNat))
 | .xor=>some (.int k (k.wrap (BitVec.ofInt k.bits a ^^^ BitVec.ofInt k.bits b).toNat))
 | .andNot=>some (.int k (k.wrap (BitVec.ofInt k.bits a &&& ~~~ BitVec.ofInt k.bits b).toNat))
 | .eql=>some (.bool (a == b))
 | .neq=>some (.bool (a != b))
 | .lss=>some (.bool (a<b))
 | .leq=>some (.bool (a<=b))
 | .gtr=>some (.bool (a>b))
 | .geq=>some (.bool (a ≥ b))
 | _=>none
def ET(d:BinOp)(k:IntKind)(a b:Int):Option PV :=
 if b<0 then none else match d with
 | .shl=>some (.int k (k.wrap (a*2^Nat.min b.toNat k.bits)))
 | .shr=>some (.int k (a.fdiv (2^Nat.min b.toNat k.bits)))
 | _=>none
def xd:BinOp->Bool
 | .shl | .shr=>true
 | _=>false
def dH(d:BinOp)(x y:AV):Option PV :=
 match x,y with
 | .p (.int k a),.p (.int f b)=>if xd d then ET d k a b else if k=f then AA d k a b else none
 | _,_=>none
def gD(d:BinOp)(x y:AV):Option PV :=
 match x,y with
 | .p (.bool a),.p (.bool b)=>match d with
  | .eql=>some (.bool (a == b))
  | .neq=>some (.bool (!(a == b)))
  | _=>none
 | _,_=>none
def tP:List (Option IntKind)->List PV->List PV->Option Bool
 | [],[],[]=>some true
 | some k::d,.int f a::r,.int h b::s=>if f=k/\h=k then(match tP d r s with|some t=>some (a == b&&t)|none=>none)else none
 | none::d,.bool a::r,.bool b::s=>match tP d r s with|some t=>some ((a == b)&&t)|none=>none
 | _,_,_=>none
def jZ(ks:List (Option IntKind))(a:BinOp)(x y:AV):Option PV :=
 match x,y with
 | .p (.agg b),.p (.agg d)=>match tP ks b d,a with
  | some t,.eql=>some (.bool t)
  | some t,.neq=>some (.bool (!t))
  | _,_=>none
 | _,_=>none
def AV.uL:AV->AV
 | .nil=>.p (.sl [])
 | v=>v
def AV.fL:AV->AV
 | .nil=>.p (.sl [])
 | .agg cs=>eJ (cs.map AV.uL)
 | v=>v
def AV.uM:AV->AV
 | .nil=>.nil
 | v=>v.fL
def St.elems(st:St):AV->Option (List AV)
 | .p (.sl es)=>some (es.map .p)
 | .nil=>some []
 | .p .nl=>some []
 | .p .sle=>some []
 | .own s g off len=>match st.obj s g with
  | some o=>if off+len<=o.es.length then some ((o.es.drop off).take len)else none
  | none=>none
 | _=>none
def vS:AV->Option Nat
 | .p (.int _ n)=>if 0<=n then some n.toNat else none
 | _=>none
def sN(st:St)(o:Option bL)(n:Nat):Option Nat :=
 match o with
 | some x=>vS (st.ev x)
 | none=>some n
def zU(cells:List AV):List (Nat × Nat × AV)->Option (List AV)
 | []=>some cells
 | (a,b,v)::r=>if v.sz=b/\0<b/\a+b<=cells.length then zU (cells.take a++v.cells++cells.drop (a+b)) r else none
def zP(es:List AV)(sz:Nat):List (Nat × AV)->Option (List AV)
 | []=>some es
 | (i,v)::r=>if v.sz=sz/\i<es.length then zP (es.set i v) sz r else none
def BK(l:List (Option bD))(g:Nat):List (Option bD):=l.set g none
def aJ(st:St):List (Nat × Nat)->St
 | []=>st
 | (s,g)::r=>aJ { st with hp:=(s,BK (st.site s) g)::st.hp } r
def St.alloc(st:St)(d:Nat)(o:bD):St:={ st with hp:=(d,st.site d++[some o])::st.hp }
def St.setObj(st:St)(s g:Nat)(o:bD):St:={ st with hp:=(s,(st.site s).set g (some o))::st.hp }
def xE(mx:Bool):List AV->Option PV
 | .p (.int k a)::r=>r.foldlM (λd v=>match d,v with
  | .int k a,.p (.int f b)=>if k=f then some (.int k (if mx then(if b>a then b else a)else(if b<a then b else a)))else none
  | _,_=>none) (.int k a)
 | _=>none
def yr(c:bI)(st:St)(d:Nat)(ids:List (Nat × Nat)):Option (AV × St) :=
 let a:=if c.res.flat then st else aJ st ids
 match c.res with
 | .pure v=>some (.p v,a)
 | .fresh f b=>if b.all (λv=>v.sz == f)=true/\0<f/\b.length<=eS then some (.own d (a.site d).length 0 b.length,a.alloc d ⟨f,b.map .p⟩)else none
 | .same _=>none
 | .oa _ _ _ _=>none
def AG:Option AV->Option (Nat × Nat × Nat × Bool)
 | some (.own s g a b)=>if a=0 then some (s,g,b,true)else none
 | some (.ptr s g d a)=>if d=0/\a=0 then some (s,g,1,false)else none
 | _=>none
def DH(c:bI)(a:List PV)(st:St)(ids:List (Nat × Nat))(s g sz:Nat):St :=
 (if (c.res.flat&&a.all PV.flat)=true then st else aJ st ids).setObj s g ⟨sz,a.map .p⟩
def za(c:bI)(i sz:Nat)(a:List PV)(st:St)(vs:List AV):Option (AV × St) :=
 match AG vs[i]? with
 | some (s,g,b,h)=>match st.obj s g with
  | some o =>
   let d:=(vs.eraseIdx i).flatMap (aO st aZ)++o.es.flatMap (aO st 5)
   if i<vs.length/\b=o.es.length/\a.length=b/\o.sz=sz/\a.all (λv=>v.sz == sz)=true/\(a.flatMap PV.cells).all PV.one=true/\d.contains (s,g)=false then
    let f:=DH c a st d s g sz
    match c.res with
    | .pure v=>some (.p v,f)
    | .fresh _ _=>none
    | .same l=>if l<=b/\h=true then some (.own s g 0 l,f)else none
    | .oa _ _ _ _=>none
   else none
  | none=>none
 | none=>none
mutual
def pK(ks:List Nat):AV->Bool
 | .own s _ _ _=>ks.contains s
 | .ptr s _ _ _=>ks.contains s
 | .agg a=>kX ks a
 | .fn _ a=>kX ks a
 | .bP a=>kX ks a
 | _=>true
def kX(ks:List Nat):List AV->Bool
 | []=>true
 | v::r=>pK ks v&&kX ks r
end
def vT(ks:List Nat):Option bD->Bool
 | none=>true
 | some o=>kX ks o.es
def dQ(ks:List Nat)(hp:List Site):Bool:=hp.all λq=>q.2.all (vT ks)
def vQ(ks:List Nat):HV->Bool
 | .av v=>pK ks v
 | .fr a b=>b.all (λe=>e.sz == a)&&decide (0<a)
 | .bx a e _=>e.sz == a&&decide (0<a)&&pK ks e
def pZ(st:St)(hp:List Site):List Site->Prop
 | []=>True
 | q::r=>st.site q.1=look hp q.1 []/\pZ st hp r
def sM:HV->St->Nat->AV × St
 | .av v,a,_=>(v,a)
 | .fr b f,a,d=>(.own d (a.site d).length 0 f.length,a.alloc d ⟨b,f.map .p⟩)
 | .bx b e h,a,d=>(.bP (.ptr d (a.site d).length 0 0::h.map .p),a.alloc d ⟨b,[e]⟩)
def Yq(st:St)(vs:List AV)(hp:List Site)(b:HV)(a:List Site):Prop :=
 pZ st hp hp/\a.map (·.1)=hp.map (·.1)/\(kX (hp.map (·.1)) vs&&dQ (hp.map (·.1)) hp&&vQ (hp.map (·.1)) b&&dQ (hp.map (·.1)) a)=true
def Ay(c:bI)(st:St)(vs:List AV):Prop :=
 match c.res with
 | .oa d f b a=>vs=d/\AV.undef∉vs/\Yq st vs f b a
 | _=>vs.mapM (bE st aZ)=some c.args
def yq(c:bI)(st:St)(d:Nat)(vs:List AV):Option (AV × St) :=
 match c.res with
 | .oa _ j f b=>some (sM f ⟨st.sl,b++st.hp⟩ d)
 | _=>match c.tn with
  | none=>yr c st d (vs.flatMap (aO st aZ))
  | some (i,h,a)=>za c i h a st vs
noncomputable def xn(orc:Option bI)(st:St)(d:Nat)(f:FuncId)(vs:List AV):Option (AV × St) :=
 match orc with
 | some c=>@ite _ (f=c.f/\Ay c st vs) (Classical.propDecidable _) (yq c st d vs) none
 | none=>none
noncomputable def bX(orc:Option bI)(st:St)(d:Nat):c7->Option (AV × St)
 | .mv x=>some (st.ev x,st)
 | .pick c a b=>match st.ev c with
  | .p (.bool true)=>some (st.ev a,st)
  | .p (.bool false)=>some (st.ev b,st)
  | _=>none
 | .alloc r zero=>if zero.sz=r/\0<r then some (.ptr d (st.site d).length 0 0,st.alloc d ⟨r,[zero]⟩)else none
 | .box r x=>if (st.ev x).sz=r/\0<r then some (.ptr d (st.site d).length 0 0,st.alloc d ⟨r,[st.ev x]⟩)else none
 | .build zero parts=>match zU zero (parts.map λ(o,s,x)=>(o,s,st.ev x))with
  | some G=>some (eJ G,st)
  | none=>none
 | .b0 r zero n parts=>if zero.sz=r/\0<r/\n*r<=16777216 then
   match zP (List.replicate n zero.fL) r (parts.map λ(i,x)=>(i,(st.ev x).fL))with
   | some C=>some (.own d (st.site d).length 0 n,st.alloc d ⟨r,C⟩)
   | none=>none
  else none
 | .load r F x=>match st.ev x with
  | .ptr s g z j=>match st.obj s g with
   | some o=>match o.es[z]? with
    | some e=>if j=0/\r=o.sz then some (e,st)else match e.xY j r F with
     | some v=>some (v,st)
     | none=>none
    | none=>none
   | none=>none
  | .cp v w j=>if j=0/\r=w then some (.p v,st)else match v.xY j r F with
   | some v=>some (.p v,st)
   | none=>none
  | _=>none
 | .store r a x=>match st.ev a with
  | .ptr s g z j=>match st.obj s g with
   | some o=>match o.es[z]? with
    | some e=>if (st.ev x).sz=r/\0<r then
      if j=0/\r=o.sz then some (.undef,st.setObj s g ⟨o.sz,o.es.set z (st.ev x)⟩)
      else match e.rR j (st.ev x)with
       | some L=>some (.undef,st.setObj s g ⟨o.sz,o.es.set z L⟩)
       | none=>none
     else none
    | none=>none
   | none=>none
  | _=>none
 | .bT x=>match st.ev x with
  | .ptr s g z j=>match st.obj s g with
   | some _=>some (.ptr s g z j,st)
   | none=>none
  | .p (.fn f u)=>some (.p (.fn f u),st)
  | .fn f u=>some (.fn f u,st)
  | .p (.ref v)=>some (.p (.ref v),st)
  | .cp v w j=>some (.cp v w j,st)
  | _=>none
 | .dH H x y=>match dH H (st.ev x) (st.ev y)with
  | some v=>some (.p v,st)
  | none=>none
 | .gD H x y=>match gD H (st.ev x) (st.ev y)with
  | some v=>some (.p v,st)
  | none=>none
 | .jZ D H x y=>match jZ D H (st.ev x) (st.ev y)with
  | some v=>some (.p v,st)
  | none=>none
 | .not x=>match st.ev x with
  | .p (.bool b)=>some (.p (.bool (!b)),st)
  | _=>none
 | .neg x=>match st.ev x with
  | .p (.int k n)=>some (.p (.int k (k.wrap (0 - n))),st)
  | _=>none
 | .tA x=>match st.ev x with
  | .p (.int k n)=>match AA .xor k (if k.signed then -1 else k.max) n with
   | some v=>some (.p v,st)
   | none=>none
  | _=>none
 | .conv k x=>match st.ev x with
  | .p (.int _ n)=>some (.p (.int k (k.wrap n)),st)
  | _=>none
 | .jK f u=>if (u.map st.ev).all AV.one then some (.fn f (u.map st.ev),st)else none
 | .cJ r zero l c=>match vS (st.ev l),vS (st.ev c)with
  | some n,some m=>if n<=m/\m<=eS/\zero.sz=r/\0<r then some (.own d (st.site d).length 0 n,st.alloc d ⟨r,List.replicate n zero.uM⟩)else none
  | _,_=>none
 | .slice r x M K=>match sN st M 0,st.ev x with
  | some l,.p (.sl C)=>match sN st K C.length with
   | some h=>if l<=h/\h<=C.length/\C.all (λe=>e.sz == r)=true/\0<r then some (.p (.sl ((C.drop l).take (h - l))),st)else none
   | none=>none
  | some l,.own s g j t=>match sN st K t with
   | some h=>match st.obj s g with
    | some o=>if l<=h/\h<=t/\j+t<=o.es.length/\o.sz=r then some (.own s g (j+l) (h - l),st)else none
    | none=>none
   | none=>none
  | some l,.nil=>match sN st K 0 with
   | some h=>if l=0/\h=0 then some (.nil,st)else none
   | none=>none
  | _,_=>none
 | .iK j x=>match st.ev x with
  | .ptr s g z o=>match st.obj s g with
   | some _=>some (.ptr s g z (o+j),st)
   | none=>none
  | .cp v w o=>some (.cp v w (o+j),st)
  | _=>none
 | .field j r F x=>match (st.ev x).iZ with
  | some G=>match sT G j r F with
   | some v=>some (v,st)
   | none=>none
  | none=>none
 | .cE r x i=>match vS (st.ev i),st.ev x with
  | some n,.p (.sl C)=>match C[n]? with
   | some e=>if e.sz=r/\0<r then some (.cp e r 0,st)else none
   | none=>none
  | some n,.own s g j t=>match st.obj s g with
   | some o=>if n<t/\j+t<=o.es.length/\o.sz=r then some (.ptr s g (j+n) 0,st)else none
   | none=>none
  | _,_=>none
 | .cK m r x i=>match vS (st.ev i),st.ev x with
  | some n,.ptr s g z o=>match st.obj s g with
   | some _=>if n<m then some (.ptr s g z (o+n*r),st)else none
   | none=>none
  | some n,.cp v w o=>if n<m then some (.cp v w (o+n*r),st)else none
  | _,_=>none
 | .idx m r F x i=>match vS (st.ev i)with
  | some n=>if n<m then match (st.ev x).iZ with
    | some G=>match sT G (n*r) r F with
     | some v=>some (v,st)
     | none=>none
    | none=>none
   else none
  | none=>none
 | .extract x i=>match st.ev x with
  | .bP E=>match E[i]? with
   | some v=>some (v,st)
   | none=>none
  | .p (.bP E)=>match E[i]? with
   | some v=>some (.p v,st)
   | none=>none
  | _=>none
 | .len x=>match st.ev x with
  | .p (.sl C)=>some (.p (.int .i64 C.length),st)
  | .nil=>some (.p (.int .i64 0),st)
  | .own _ _ _ t=>some (.p (.int .i64 t),st)
  | _=>none
 | .append r a x=>match st.elems (st.ev x)with
  | some B=>if (B.map AV.fL).all (λv=>v.sz == r)=true/\0<r then match st.ev a with
   | .nil=>if B.length<=eS then some (.own d (st.site d).length 0 B.length,st.alloc d ⟨r,B.map AV.fL⟩)else none
   | .own s g j t=>match st.obj s g with
    | some o=>if j=0/\t=o.es.length/\o.sz=r/\t+B.length<=eS then
      let J:=aJ st [(s,g)]
      some (.own d (J.site d).length 0 (t+B.length),J.alloc d ⟨r,o.es++B.map AV.fL⟩)
     else none
    | none=>none
   | _=>none
   else none
  | none=>none
 | .min B=>match xE false (B.map st.ev)with
  | some v=>some (.p v,st)
  | none=>none
 | .max B=>match xE true (B.map st.ev)with
  | some v=>some (.p v,st)
  | none=>none
 | .call f args=>xn orc st d f (args.map st.ev)
 | .gS x args=>match st.ev x with
  | .p (.fn f u)=>xn orc st d f (args.map st.ev++u.map .p)
  | .fn f u=>xn orc st d f (args.map st.ev++u)
  | _=>none
 | .iI A x=>match st.ev x with
  | .nil=>some (.p (.bool (!A)),st)
  | .p .nl=>some (.p (.bool (!A)),st)
  | .p .sle=>some (.p (.bool A),st)
  | .p (.sl (_::_))=>some (.p (.bool A),st)
  | .own s g _ t=>match st.obj s g with
   | some _=>if 0<t then some (.p (.bool A),st)else none
   | none=>none
  | _=>none
 | .cap x=>match st.ev x with
  | .nil=>some (.p (.int .i64 0),st)
  | _=>none
 | .clear r zero x=>match st.ev x with
  | .nil=>some (.bP [],st)
  | .own s g j t=>match st.obj s g with
   | some o=>if j+t<=o.es.length/\o.sz=r/\zero.sz=r then some (.bP [],st.setObj s g ⟨o.sz,o.es.take j++List.replicate t zero.fL++o.es.drop (j+t)⟩)else none
   | none=>none
  | _=>none
 | .eZ r zero a x=>match st.ev a,vS (st.ev x)with
  | .nil,some n=>if 0<n/\n<=eS/\zero.sz=r/\0<r then some (.own d (st.site d).length 0 n,st.alloc d ⟨r,List.replicate n zero.fL⟩)else none
  | _,_=>none
 | .qG x i=>match st.ev x,vS (st.ev i)with
  | .p (.str s),some n=>match s[n]? with
   | some b=>some (.p (.int .u8 b.toNat),st)
   | none=>none
  | _,_=>none
 | .lW I zero x k=>match st.ev x,st.ev k with
  | .p (.mp _ D E),.p (.agg kc)=>if j' I kc=true/\D.all (su I)=true then some (match oD kc D E with|some v=>.p v|none=>zero,st)else none
  | _,_=>none
 | .jW I zero x k=>match st.ev x,st.ev k with
  | .p (.mp _ D E),.p (.agg kc)=>if j' I kc=true/\D.all (su I)=true then some (match oD kc D E with|some v=>.bP [.p v,.p (.bool true)]|none=>.bP [zero,.p (.bool false)],st)else none
  | _,_=>none
 | .raw _=>none
 | .bad=>none
mutual
inductive PRep (M:Nat->Option Obj):PV->Value->Prop
 | bool (b:Bool):PRep M (.bool b) (.bool b)
 | int (k:IntKind) (n:Int):PRep M (.int k n) (.int k n)
 | str (s:ByteArray):PRep M (.str s) (.string s)
 | aK:PRep M .aK .nilFunc
 | any (x:Value):x.oneCell'=true->PRep M .any x
 | nl (cap:Nat):PRep M .nl (.slice none 0 cap)
 | sle (a:Addr) (cap:Nat):PRep M .sle (.slice (some a) 0 cap)
 | fH (r:Nat):PRep M (.fH r) (.map (some r))
 | wN (r:Nat):PRep M (.wN r) (.pointer (some ⟨r,0,none⟩))
 | mp (r:Nat) (ks vs:List PV) (es:Array MapEntry) (clock:Nat):M r=some (.map es clock)->PReps M ks (es.toList.map (·.key))->PReps M vs (es.toList.map (·.val))->(es.toList.map (·.key)).Nodup ->
   (∀ e∈es.toList,e.born<clock)->(es.toList.map (·.born)).Nodup->PRep M (.mp r ks vs) (.map (some r))
 | ry (a:Option Addr) (cap:Nat):PRep M (.sl []) (.slice a 0 cap)
 | sl (es:List PV) (b o cap:Nat) (cur:Array Value) (T:TypeId) (fr:Nat × Nat) (sz:Nat) (vals:List Value) :
   M b=some (.cells cur T fr)->0<sz->(∀ e∈es,e.sz=sz)->(∀ c∈es.flatMap PV.cells,c.one=true)->PReps M (es.flatMap PV.cells) vals ->
   (∀ i v,vals[i]?=some v->cur[o+i]?=some v)->es.length<=cap->es.length<=maxLen->PRep M (.sl es) (.slice (some ⟨b,o,none⟩) es.length cap)
 | agg (cs:List PV) (vals:List Value):(∀ c∈cs,c.one=true)->PReps M cs vals->PRep M (.agg cs) (.agg vals.toArray)
 | fn (f:FuncId) (gW:List PV) (vals:List Value):PReps M gW vals->PRep M (.fn f gW) (.func (.func f) #[] vals.toArray)
 | ref (v:PV) (b o:Nat) (cur:Array Value) (T:TypeId) (fr:Nat × Nat) (vals:List Value) :
   M b=some (.cells cur T fr)->0<v.sz->(∀ c∈v.cells,c.one=true)->PReps M v.cells vals->(∀ i x,vals[i]?=some x->cur[o+i]?=some x) ->
   PRep M (.ref v) (.pointer (some ⟨b,o,none⟩))
 | bP (vs:List PV) (vals:List Value):PReps M vs vals->PRep M (.bP vs) (.tuple vals.toArray)
inductive PReps (M:Nat->Option Obj):List PV->List Value->Prop
 | nil:PReps M [] []
 | cons (v:PV) (x:Value) (vs:List PV) (xs:List Value):PRep M v x->PReps M vs xs->PReps M (v::vs) (x::xs)
end
structure Cz where
 M:Nat->Option Obj
 B:Nat->Nat->Option Nat
 cap:Nat->Nat->Nat
mutual
inductive aM (Z:Cz) (st:St):AV->Value->Prop
 | p (v:PV) (x:Value):PRep Z.M v x->aM Z st (.p v) x
 | nil:aM Z st .nil (.slice none 0 0)
 | dU (s g:Nat) (o:bD):st.obj s g=some o->Z.B s g=none->aM Z st (.own s g 0 0) (.slice none 0 0)
 | own (s g off len:Nat) (o:bD) (b:Nat) (ad:Addr) (c:Nat):st.obj s g=some o->Z.B s g=some b->(off=0->ad=⟨b,0,none⟩/\c=Z.cap s g) ->
   (0<len->ad=⟨b,off*o.sz,none⟩)->off+len<=o.es.length->len<=c->aM Z st (.own s g off len) (.slice (some ad) len c)
 | eN (s g off len:Nat) (ad:Option Addr) (c:Nat):g<(st.site s).length->st.obj s g=none->aM Z st (.own s g off len) (.slice ad len c)
 | ptr (s g ix off:Nat) (o:bD) (b:Nat):st.obj s g=some o->Z.B s g=some b->aM Z st (.ptr s g ix off) (.pointer (some ⟨b,ix*o.sz+off,none⟩))
 | kK (s g ix off:Nat) (ad:Option Addr):g<(st.site s).length->st.obj s g=none->aM Z st (.ptr s g ix off) (.pointer ad)
 | cp (v:PV) (vC off b o:Nat) (cur:Array Value) (T:TypeId) (fr:Nat × Nat) (vals:List Value) :
   Z.M b=some (.cells cur T fr)->0<vC->v.sz=vC->(∀ c∈v.cells,c.one=true)->PReps Z.M v.cells vals->(∀ i x,vals[i]?=some x->cur[o+i]?=some x) ->
   aM Z st (.cp v vC off) (.pointer (some ⟨b,o+off,none⟩))
 | agg (cs:List AV) (vals:List Value):(∀ c∈cs,c.one=true)->aG Z st cs vals->aM Z st (.agg cs) (.agg vals.toArray)
 | fn (f:FuncId) (gW:List AV) (vals:List Value):aG Z st gW vals->aM Z st (.fn f gW) (.func (.func f) #[] vals.toArray)
 | bP (vs:List AV) (vals:List Value):aG Z st vs vals->aM Z st (.bP vs) (.tuple vals.toArray)
 | skip:aM Z st .skip Go.undef
 | undef (x:Value):aM Z st .undef x
inductive aG (Z:Cz) (st:St):List AV->List Value->Prop
 | nil:aG Z st [] []
 | cons (v:AV) (x:Value) (vs:List AV) (xs:List Value):aM Z st v x->aG Z st vs xs->aG Z st (v::vs) (x::xs)
end
structure oA (Z:Cz) (st:St) (w:World) (s g:Nat) (o:bD):Prop where
 pos:0<o.sz
 jC:∀ e∈o.es,e.sz=o.sz
 one:∀ c∈o.es.flatMap AV.cells,c.one=true
 xt:Z.B s g=none->o.es=[]
 bU:∀ b,Z.B s g=some b->∃ (cur:Array Value) (T:TypeId) (vals:List Value),w.heap[b]?=some (.cells cur T (0,0))/\aG Z st (o.es.flatMap AV.cells) vals /\
  (∀ (i:Nat) (v:Value),vals[i]?=some v->cur[i]?=some v)/\cur.size=Z.cap s g*o.sz/\o.es.length<=Z.cap s g/\Z.cap s g<=maxLen
structure Ctx where
 w0:World
 M0:Nat->Option Obj
 X0:Nat->Prop
 N:Nat
structure Keep (w0 w:World) (X:Nat->Prop):Prop where
 os:w.os=w0.os
 tape:w.tape=w0.tape
 output:w.output=w0.output
 drawn:w0.drawn<=w.drawn
 size:w0.heap.size<=w.heap.size
 bU:∀ b,b<w0.heap.size->¬ X b->w.heap[b]?=w0.heap[b]?
structure bC (K:Ctx) (Z:Cz) (st:St) (w:World):Prop where
 bR:∀ s g o,st.obj s g=some o->oA Z st w s g o
 inj:∀ s g s' g' o o' b,st.obj s g=some o->st.obj s' g'=some o'->Z.B s g=some b->Z.B s' g'=some b->s=s'/\g=g'
 mem:∀ b o,Z.M b=some o->w.heap[b]?=some o
 sep:∀ s g o b,st.obj s g=some o->Z.B s g=some b->Z.M b=none
 own:∀ s g o b,st.obj s g=some o->Z.B s g=some b->K.X0 b\/K.w0.heap.size<=b
 m0:∀ b o,K.M0 b=some o->Z.M b=some o
 eE:∀ b o,Z.M b=some o->K.M0 b=some o\/K.X0 b\/K.w0.heap.size<=b
 keep:Keep K.w0 w K.X0
structure aN (K:Ctx) (Z:Cz) (st:St) (w:World) (a:Act):Prop where
 aR:∀ t,aM Z st (st.get t) (a.tmps.getD t Go.undef)
 defers:a.defers=[]
 size:a.tmps.size=K.N
 heap:bC K Z st w
structure cO (Z:Cz) (st:St) (Z':Cz) (st':St):Prop where
 M:∀ b o,Z.M b=some o->Z'.M b=some o
 len:∀ s,(st.site s).length<=(st'.site s).length
 dead:∀ s g,g<(st.site s).length->st.obj s g=none->st'.obj s g=none
 live:∀ s g o,st.obj s g=some o->st'.obj s g=none\/∃ o',st'.obj s g=some o'/\o'.sz=o.sz/\o'.es.length=o.es.length/\Z'.B s g=Z.B s g/\Z'.cap s g=Z.cap s g
def nO{st:St}{s g:Nat}{o:bD}(h:st.obj s g=some o):g<(st.site s).length:=by
 unfold St.obj at h;obtain a|a:=pR g (st.site s).length
 .omega
 .grind
mutual
theorem PRep.mono{M M':Nat->Option Obj}(d:∀ b o,M b=some o->M' b=some o):∀ {v:PV} {x:Value},PRep M v x->PRep M' v x
 | _,_,.bool b=>.bool b
 | _,_,.int k n=>.int k n
 | _,_,.str s=>.str s
 | _,_,.aK=>.aK
 | _,_,.any x h=>.any x h
 | _,_,.nl c=>.nl c
 | _,_,.sle a c=>.sle a c
 | _,_,.fH r=>.fH r
 | _,_,.wN r=>.wN r
 | _,_,.mp r ks vs es clock l i j h3 m p=>.mp r ks vs es clock (d _ _ l) (PReps.mono d i) (PReps.mono d j) h3 m p
 | _,_,.ry a c=>.ry a c
 | _,_,.sl es b o cap cur T fr sz vals l i j h3 m p t u=>.sl es b o cap cur T fr sz vals (d _ _ l) i j h3 (PReps.mono d m) p t u
 | _,_,.agg cs vals i j=>.agg cs vals i (PReps.mono d j)
 | _,_,.fn f gW vals h=>.fn f gW vals (PReps.mono d h)
 | _,_,.ref v b o cur T fr vals l i j h3 m=>.ref v b o cur T fr vals (d _ _ l) i j (PReps.mono d h3) m
 | _,_,.bP vs vals h=>.bP vs vals (PReps.mono d h)
theorem PReps.mono{M M':Nat->Option Obj}(a:∀ b o,M b=some o->M' b=some o):∀ {v:List PV} {x:List Value},PReps M v x->PReps M' v x
 | _,_,.nil=>.nil
 | _,_,.cons v x vs xs h hs=>.cons v x vs xs (PRep.mono a h) (PReps.mono a hs)
end
mutual
theorem aM.mono{Z Z':Cz}{st st':St}(h:cO Z st Z' st'):∀ {v:AV} {x:Value},aM Z st v x->aM Z' st' v x
 | _,_,.p v x hp=>.p v x (PRep.mono h.M hp)
 | _,_,.nil=>.nil
 | _,_,.dU s g o i k=>by
  obtain hd|⟨o',a,d,j,h3,m⟩:=h.live s g o i
  .exact .eN s g 0 0 none 0 (iC (nO i) (h.len s)) hd
  .exact .dU s g o' a (h3.trans k)
 | _,_,.own s g off len o b ad c i k d j h3 m=>by
  obtain hd|⟨o',a,n,t,r,u⟩:=h.live s g o i
  .exact .eN s g off len _ _ (iC (nO i) (h.len s)) hd
  .exact .own s g off len o' b ad c a (r.trans k) (by rw[u];exact d) (by rw[n];exact j) (by rw[t];exact h3) m
 | _,_,.eN s g off len ad c l hd=>.eN s g off len ad c (iC l (h.len s)) (h.dead s g l hd)
 | _,_,.ptr s g ix off o b i k=>by
  obtain hd|⟨o',a,n,t,r,u⟩:=h.live s g o i
  .exact .kK s g ix off _ (iC (nO i) (h.len s)) hd
  .rw[<- n];exact .ptr s g ix off o' b a (r.trans k)
 | _,_,.kK s g ix off ad l hd=>.kK s g ix off ad (iC l (h.len s)) (h.dead s g l hd)
 | _,_,.cp v vC off b o cur T fr vals w d j h3 m y=>.cp v vC off b o cur T fr vals (h.M _ _ w) d j h3 (PReps.mono h.M m) y
 | _,_,.agg cs vals d j=>.agg cs vals d (aG.mono h j)
 | _,_,.fn f gW vals d=>.fn f gW vals (aG.mono h d)
 | _,_,.bP vs vals d=>.bP vs vals (aG.mono h d)
 | _,_,.skip=>.skip
 | _,_,.undef x=>.undef x
theorem aG.mono{Z Z':Cz}{st st':St}(h:cO Z st Z' st'):∀ {v:List AV} {x:List Value},aG Z st v x->aG Z' st' v x
 | _,_,.nil=>.nil
 | _,_,.cons v x vs xs a hs=>.cons v x vs xs (aM.mono h a) (aG.mono h hs)
end
def cO.refl(Z:Cz)(st:St):cO Z st Z st :=
 ⟨λ_ _ h=>h,λ_=>dK _,λ_ _ _ h=>h,λ_ _ o h=>.inr ⟨o,h,rfl,rfl,rfl,rfl⟩⟩
def cO.trans{Z Z' d:Cz}{st st' a:St}(h:cO Z st Z' st')(k:cO Z' st' d a):cO Z st d a:=by
 refine⟨λb o e=>k.M b o (h.M b o e),λs=>dP (h.len s) (k.len s),λs g i hd=>k.dead s g (iC i (h.len s)) (h.dead s g i hd),λs g o j=>?_⟩;obtain hd|⟨o',f,n,p,r,t⟩:=h.live s g o j
 .exact .inl (k.dead s g (iC (nO j) (h.len s)) hd)
 .obtain hd|⟨m,l,u,w,x,y⟩:=k.live s g o' f
  .grind
  .grind
theorem PReps.length{M:Nat->Option Obj}:∀ {vs:List PV} {xs:List Value},PReps M vs xs->xs.length=vs.length
 | _,_,.nil=>rfl
 | _,_,.cons _ _ _ _ _ h=>by simp[PReps.length h]
theorem PReps.append{M:Nat->Option Obj}:∀ {vs us:List PV} {xs a:List Value},PReps M vs xs->PReps M us a->PReps M (vs++us) (xs++a)
 | _,_,_,_,.nil,h=>h
 | _,_,_,_,.cons _ _ _ _ h hs,k=>.cons _ _ _ _ h (PReps.append hs k)
theorem PReps.drop{M:Nat->Option Obj}:∀ (n:Nat) {vs:List PV} {xs:List Value},PReps M vs xs->PReps M (vs.drop n) (xs.drop n)
 | 0,_,_,h=>by simpa using h
 | n+1,_,_,.nil=>by simpa using PReps.nil
 | n+1,_,_,.cons _ _ _ _ _ hs=>by simpa using PReps.drop n hs
theorem PReps.take{M:Nat->Option Obj}:∀ (n:Nat) {vs:List PV} {xs:List Value},PReps M vs xs->PReps M (vs.take n) (xs.take n)
 | 0,_,_,_=>by simpa using PReps.nil
 | n+1,_,_,.nil=>by simpa using PReps.nil
 | n+1,_,_,.cons _ _ _ _ h hs=>by simpa using PReps.cons _ _ _ _ h (PReps.take n hs)
theorem PReps.get{M:Nat->Option Obj}:∀ {vs:List PV} {xs:List Value} (i:Nat) (v:PV),PReps M vs xs->vs[i]?=some v->∃ x,xs[i]?=some x/\PRep M v x
 | _,_,i,v,.nil,h=>by simp at h
 | _,_,0,v,.cons u x _ _ h _,e=>by simp at e;subst e;exact⟨x,by simp,h⟩
 | _,_,i+1,v,.cons _ _ _ _ _ hs,e=>by simp at e;simpa using PReps.get i v hs e
theorem aG.length{Z:Cz}{st:St}:∀ {vs:List AV} {xs:List Value},aG Z st vs xs->xs.length=vs.length
 | _,_,.nil=>rfl
 | _,_,.cons _ _ _ _ _ h=>by simp[aG.length h]
theorem aG.append{Z:Cz}{st:St}:∀ {vs us:List AV} {xs a:List Value},aG Z st vs xs->aG Z st us a->aG Z st (vs++us) (xs++a)
 | _,_,_,_,.nil,h=>h
 | _,_,_,_,.cons _ _ _ _ h hs,k=>.cons _ _ _ _ h (aG.append hs k)
theorem aG.drop{Z:Cz}{st:St}:∀ (n:Nat) {vs:List AV} {xs:List Value},aG Z st vs xs->aG Z st (vs.drop n) (xs.drop n)
 | 0,_,_,h=>by simpa using h
 | n+1,_,_,.nil=>by simpa using aG.nil
 | n+1,_,_,.cons _ _ _ _ _ hs=>by simpa using aG.drop n hs
theorem aG.take{Z:Cz}{st:St}:∀ (n:Nat) {vs:List AV} {xs:List Value},aG Z st vs xs->aG Z st (vs.take n) (xs.take n)
 | 0,_,_,_=>by simpa using aG.nil
 | n+1,_,_,.nil=>by simpa using aG.nil
 | n+1,_,_,.cons _ _ _ _ h hs=>by simpa using aG.cons _ _ _ _ h (aG.take n hs)
theorem aG.get{Z:Cz}{st:St}:∀ {vs:List AV} {xs:List Value} (i:Nat) (v:AV),aG Z st vs xs->vs[i]?=some v->∃ x,xs[i]?=some x/\aM Z st v x
 | _,_,i,v,.nil,h=>by simp at h
 | _,_,0,v,.cons u x _ _ h _,e=>by simp at e;subst e;exact⟨x,by simp,h⟩
 | _,_,i+1,v,.cons _ _ _ _ _ hs,e=>by simp at e;simpa using aG.get i v hs e
theorem aG.lS{Z:Cz}{st:St}:∀ {vs:List PV} {xs:List Value},PReps Z.M vs xs->aG Z st (vs.map .p) xs
 | _,_,.nil=>.nil
 | _,_,.cons v x _ _ h hs=>.cons _ _ _ _ (.p v x h) (aG.lS hs)
theorem aG.oT{Z:Cz}{st:St}:∀ {vs:List PV} {xs:List Value},aG Z st (vs.map .p) xs->PReps Z.M vs xs
 | [],_,.nil=>.nil
 | v::vs,_,.cons _ _ _ _ (.p _ _ h) hs=>.cons _ _ _ _ h (aG.oT hs)
theorem G':∀ {cs:List AV} {ps:List PV},uU cs=some ps->cs=ps.map .p
 | [],ps,h=>by simp[uU]at h;subst h;rfl
 | .p v::r,ps,h=>by
  simp[uU]at h;split at h
  .rename_i b a;cases h;rw[G' a];rfl
  .grind
def Qa(cs:List AV):(eJ cs).cells=cs:=by
 unfold eJ;split
 .rename_i a h;rw[G' h];rfl
 .rfl
def N0(cs:List AV):(eJ cs).sz=if cs.length<=1 then 0 else cs.length:=by
 unfold eJ;split
 .rename_i a h;rw[G' h];simp[AV.sz,PV.sz]
 .rfl
def aM.eJ{Z:Cz}{st:St}{cs:List AV}{vals:List Value}(a:∀ c∈cs,c.one=true)(h:aG Z st cs vals):aM Z st (eJ cs) (.agg vals.toArray):=by
 unfold Ab.eJ;split
 .rename_i ps hp;have:=G' hp;subst this;exact .p _ _ (.agg _ _ (λc b=>by have:=a (.p c) (List.mem_map.2 ⟨c,b,rfl⟩);simpa[AV.one]using this) (aG.oT h))
 .exact .agg _ _ a h
def Lz{x:Value}(h:x.oneCell'=true):x.cells = #[x]:=by cases x<;>first|rfl|simp[Value.oneCell']at h
def PRep.gu{M:Nat->Option Obj}{v:PV}{x:Value}(h:PRep M v x)(a:v.one=true):x.oneCell'=true:=by cases h<;>first|rfl|assumption|simp at a
def aM.gu{Z:Cz}{st:St}{v:AV}{x:Value}(h:aM Z st v x)(a:v.one=true):x.oneCell'=true:=by cases h<;>first|rfl|(rename_i hp;exact hp.gu a)|simp[AV.one]at a
def PV.cells_one{v:PV}(h:v.one=true):v.cells=[v]/\v.sz=1:=by cases v<;>first|exact⟨rfl,rfl⟩|simp[PV.one]at h
def AV.cells_one{v:AV}(h:v.one=true):v.cells=[v]/\v.sz=1:=by
 cases v<;>first|exact⟨rfl,rfl⟩|simp[AV.one]at h|skip
 rename_i v;cases v<;>first|exact⟨rfl,rfl⟩|simp[PV.one]at h
def PV.eA{v:PV}(h:0<v.sz):v.one=true\/∃ cs,v=.agg cs/\1<cs.length:=by
 cases v<;>first|exact .inl rfl|(simp[PV.sz]at h;done)|skip
 rename_i cs;refine .inr ⟨cs,rfl,?_⟩;simp[PV.sz]at h
 grind
def AV.eA{v:AV}(h:0<v.sz):v.one=true\/(∃ cs,v=.agg cs/\1<cs.length)\/∃ cs,v=.p (.agg cs)/\1<cs.length:=by
 cases v<;>first|exact .inl rfl|(simp[AV.sz]at h;done)|skip
 case p v =>
  obtain a|⟨cs,rfl,a⟩:=PV.eA (v:=v) h
  .exact .inl a
  .grind
 case agg cs =>
  refine .inr (.inl ⟨cs,rfl,?_⟩);simp[AV.sz]at h
  grind
def PRep.cells{M:Nat->Option Obj}{v:PV}{x:Value}(h:PRep M v x)(hs:0<v.sz) :
  PReps M v.cells x.cells.toList/\v.cells.length=v.sz/\(∀ c∈v.cells,c.one=true):=by
 obtain a|⟨cs,rfl,a⟩:=PV.eA hs
 .obtain⟨b,d⟩:=PV.cells_one a;rw[Lz (h.gu a),b,d];exact⟨.cons _ _ _ _ h .nil,rfl,by simpa using a⟩
 .cases h with
  | agg _ vals f i=>exact⟨by simpa[PV.cells,Value.cells]using i,by simp[PV.cells,PV.sz];omega,by simpa[PV.cells]using f⟩
def aM.cells{Z:Cz}{st:St}{v:AV}{x:Value}(h:aM Z st v x)(hs:0<v.sz) :
  aG Z st v.cells x.cells.toList/\v.cells.length=v.sz/\(∀ c∈v.cells,c.one=true):=by
 obtain a|⟨cs,rfl,a⟩|⟨cs,rfl,a⟩:=AV.eA hs
 .obtain⟨j,k⟩:=AV.cells_one a;rw[Lz (h.gu a),j,k];exact⟨.cons _ _ _ _ h .nil,rfl,by simpa using a⟩
 .cases h with
  | agg _ vals l m=>exact⟨by simpa[AV.cells,Value.cells]using m,by simp[AV.cells,AV.sz];omega,by simpa[AV.cells]using l⟩
 .cases h with
  | p _ _ hp =>
   obtain⟨a1,f,i⟩:=hp.cells (by simpa[AV.sz]using hs);refine⟨by simpa[AV.cells,PV.cells]using aG.lS a1,by simpa[AV.cells,AV.sz,PV.cells]using f,?_⟩;intro c b;simp[AV.cells]at b;obtain⟨d,hd,rfl⟩:=b;exact i d hd
def PRep.lU{M:Nat->Option Obj}{v:PV}{xs:List Value}(hs:0<v.sz)(d:∀ c∈v.cells,c.one=true)(h:PReps M v.cells xs) :
  (v.one=true->∃ x,xs=[x]/\PRep M v x)/\(v.one=false->PRep M v (.agg xs.toArray)):=by
 refine⟨λb=>?_,λb=>?_⟩
 .rw[(PV.cells_one b).1]at h;cases h with
  | cons _ x _ _ f hn=>cases hn;exact⟨x,rfl,f⟩
 .obtain a|⟨cs,rfl,a⟩:=PV.eA hs
  .rw[b]at a;cases a
  .exact .agg _ _ d h
def aM.lU{Z:Cz}{st:St}{v:AV}{xs:List Value}(hs:0<v.sz)(a:∀ c∈v.cells,c.one=true)(h:aG Z st v.cells xs) :
  (v.one=true->∃ x,xs=[x]/\aM Z st v x)/\(v.one=false->aM Z st v (.agg xs.toArray)):=by
 refine⟨λd=>?_,λd=>?_⟩
 .rw[(AV.cells_one d).1]at h;cases h with
  | cons _ x _ _ i hn=>cases hn;exact⟨x,rfl,i⟩
 .obtain b|⟨cs,rfl,b⟩|⟨cs,rfl,b⟩:=AV.eA hs
  .grind
  .exact .agg _ _ a h
  .refine .p _ _ (.agg _ _ (λc f=>?_) (aG.oT h));have:=a (.p c) (List.mem_map.2 ⟨c,f,rfl⟩);simpa[AV.one]using this
def Cz.bO(Z:Cz)(s g:Nat)(b:Option Nat)(c:Nat):Cz :=
 {Z with B:=λs' g'=>if s'=s/\g'=g then b else Z.B s' g',cap:=λs' g'=>if s'=s/\g'=g then c else Z.cap s' g' }
def vq(st:St)(d:Nat)(o:bD)(s:Nat):(st.alloc d o).site s=if s=d then st.site d++[some o]else st.site s:=by
 unfold St.alloc St.site;simp[look];by_cases h:d=s
 .grind
 .grind
def kY(st:St)(d:Nat)(o:bD)(s g:Nat):(st.alloc d o).obj s g=if s=d/\g=(st.site d).length then some o else st.obj s g:=by
 unfold St.obj;rw[vq];by_cases h:s=d
 .grind
 .grind
def St.kill(st:St)(s g:Nat):St:={ st with hp:=(s,BK (st.site s) g)::st.hp }
theorem HG(st:St)(s g:Nat)(r:List (Nat × Nat)):aJ st ((s,g)::r)=aJ (st.kill s g) r:=rfl
def E5(st:St)(s g t:Nat):(st.kill s g).site t=if t=s then(st.site s).set g none else st.site t:=by
 unfold St.kill St.site;simp[look,BK];by_cases h:s=t
 .grind
 .grind
def AS(st:St)(s g a b:Nat):(st.kill s g).obj a b=if a=s/\b=g then none else st.obj a b:=by
 unfold St.obj;rw[E5];by_cases h:a=s
 .grind
 .grind
def UE(st:St)(s g t:Nat):((st.kill s g).site t).length=(st.site t).length:=by
 rw[E5];split
 .grind
 .rfl
def xM(st:St)(s g t:Nat)(o:bD):(st.setObj s g o).site t=if t=s then(st.site s).set g (some o)else st.site t:=by
 unfold St.setObj St.site;simp[look];by_cases h:s=t
 .grind
 .grind
def vp(st:St)(s g a b:Nat)(o:bD)(d:g<(st.site s).length):(st.setObj s g o).obj a b=if a=s/\b=g then some o else st.obj a b:=by
 unfold St.obj;rw[xM];by_cases h:a=s
 .grind
 .grind
def U4(st:St)(s g t:Nat)(o:bD):((st.setObj s g o).site t).length=(st.site t).length:=by
 rw[xM];split
 .grind
 .rfl
def cO.alloc(Z:Cz)(st:St)(d:Nat)(o:bD)(b:Option Nat)(c:Nat):cO Z st (Z.bO d (st.site d).length b c) (st.alloc d o):=by
 refine⟨λ_ _ h=>h,λs=>?_,λs g f hd=>?_,λs g o' a=>.inr ⟨o',?_,rfl,rfl,?_,?_⟩⟩
 .rw[vq];split
  .grind
  .simp
 .rw[kY,aY (by rintro⟨rfl,rfl⟩;omega)];exact hd
 .rw[kY,aY (by rintro⟨rfl,rfl⟩;have:=nO a;omega)];exact a
 .simp only[Cz.bO];rw[aY (by rintro⟨rfl,rfl⟩;have:=nO a;omega)]
 .simp only[Cz.bO];rw[aY (by rintro⟨rfl,rfl⟩;have:=nO a;omega)]
def cO.kill(Z:Cz)(st:St)(s g:Nat):cO Z st Z (st.kill s g):=by
 refine⟨λ_ _ h=>h,λt=>by rw[UE];exact dK _,λs' g' b hd=>?_,λs' g' o' a=>?_⟩
 .rw[AS];split
  .rfl
  .omega
 .by_cases h:s'=s/\g'=g
  .left;rw[AS,aW h]
  .right;exact⟨o',by rw[AS,aY h];exact a,rfl,rfl,rfl,rfl⟩
def cO.setObj(Z:Cz)(st:St)(s g:Nat)(o o':bD)(d:st.obj s g=some o)(f:o'.sz=o.sz)(i:o'.es.length=o.es.length):cO Z st Z (st.setObj s g o'):=by
 have b:=nO d;refine⟨λ_ _ h=>h,λt=>by rw[U4];exact dK _,λs' g' j hd=>?_,λs' g' o1 a=>.inr ?_⟩
 .rw[vp _ _ _ _ _ _ b,aY (by rintro⟨rfl,rfl⟩;rw[d]at hd;cases hd)];exact hd
 .by_cases h:s'=s/\g'=g
  .obtain⟨rfl,rfl⟩:=h;rw[d]at a;cases a;exact⟨o',by rw[vp _ _ _ _ _ _ b,aW ⟨rfl,rfl⟩],f,i,rfl,rfl⟩
  .exact⟨o1,by rw[vp _ _ _ _ _ _ b,aY h];exact a,rfl,rfl,rfl,rfl⟩
def oA.later{Z Z':Cz}{st st':St}{w w':World}{s g:Nat}{o:bD}(h:oA Z st w s g o)(hz:cO Z st Z' st')(f:Z'.B s g=Z.B s g)(d:Z'.cap s g=Z.cap s g)
  (n:∀ b,Z.B s g=some b->w'.heap[b]?=w.heap[b]?):oA Z' st' w' s g o:=by
 refine⟨h.pos,h.jC,h.one,λhn=>h.xt (by rw[<- f];exact hn),λb a=>?_⟩;rw[f]at a;obtain⟨cur,T,vals,i,j,h3,k,l,m⟩:=h.bU b a;exact⟨cur,T,vals,by rw[n b a];exact i,aG.mono hz j,h3,by rw[d];exact k,by rw[d];exact l,by rw[d];exact m⟩
def Keep.alloc{w0 w:World}{X:Nat->Prop}(h:Keep w0 w X)(o:Obj):Keep w0 (w.alloc o) X :=
 ⟨h.os,h.tape,h.output,h.drawn,by simp;have:=h.size;omega,λb a d=>by rw[heap_alloc_old w o b (iC a h.size)];exact h.bU b a d⟩
def Keep.drew{w0 w:World}{X:Nat->Prop}(h:Keep w0 w X):Keep w0 w.drew X:=⟨h.os,h.tape,h.output,dP h.drawn (Nat.le_succ _),h.size,h.bU⟩
def Keep.setRow{w0 w:World}{X:Nat->Prop}(h:Keep w0 w X)(g:Nat)(cs:Array Value)(a:X g\/w0.heap.size<=g):Keep w0 (w.setRow g cs) X:=by refine⟨h.os,h.tape,h.output,h.drawn,by rw[setRow_size];exact h.size,λb f d=>?_⟩;rw[setRow_other w g b cs (by rintro rfl;obtain a|a:=a;exact d a;omega)];exact h.bU b f d
def bC.drew{K:Ctx}{Z:Cz}{st:St}{w:World}(h:bC K Z st w):bC K Z st w.drew :=
 ⟨λs g o a=>(h.bR s g o a).later (cO.refl Z st) rfl rfl (λ_ _=>rfl),h.inj,h.mem,h.sep,h.own,h.m0,h.eE,h.keep.drew⟩
def bC.lt{K:Ctx}{Z:Cz}{st:St}{w:World}(h:bC K Z st w){s g b:Nat}{o:bD}(d:st.obj s g=some o)(a:Z.B s g=some b):b<w.heap.size:=by
 obtain⟨cur,T,vals,f,_⟩:=(h.bR s g o d).bU b a
 grind
def bC.F3{K:Ctx}{Z:Cz}{st:St}{w:World}(h:bC K Z st w){b:Nat}{o:Obj}(a:Z.M b=some o):b<w.heap.size :=
 (sG.1 (h.mem b o a)).1
def bC.alloc{K:Ctx}{Z:Cz}{st:St}{w:World}(h:bC K Z st w)(d:Nat)(o:bD)(cur:Array Value)(T:TypeId)(c:Nat)(vals:List Value)
  (t:0<o.sz) (u:∀ e∈o.es,e.sz=o.sz) (h3:∀ x∈o.es.flatMap AV.cells,x.one=true) (y:aG Z st (o.es.flatMap AV.cells) vals)
  (z:∀ (i:Nat) (v:Value),vals[i]?=some v->cur[i]?=some v) (A:cur.size=c*o.sz) (C:o.es.length<=c) (D:c<=maxLen) :
  bC K (Z.bO d (st.site d).length (some w.heap.size) c) (st.alloc d o) (w.alloc (.cells cur T)):=by
 have hz:=cO.alloc Z st d o (some w.heap.size) c;have hn:∀ {s g:Nat} {o':bD},st.obj s g=some o'->¬ (s=d/\g=(st.site d).length):=by rintro s g o' j ⟨rfl,rfl⟩;have:=nO j;omega
 have n:∀ {s g:Nat},¬ (s=d/\g=(st.site d).length)->(Z.bO d (st.site d).length (some w.heap.size) c).B s g=Z.B s g:=λa=>by simp only[Cz.bO];rw[aY a]
 have E:∀ {s g:Nat},¬ (s=d/\g=(st.site d).length)->(Z.bO d (st.site d).length (some w.heap.size) c).cap s g=Z.cap s g:=λa=>by simp only[Cz.bO];rw[aY a]
 refine⟨λs g o' j=>?_,λs g s' g' o' r b j m f l=>?_,λb o' f=>?_,λs g o' b j f=>?_,λs g o' b j f=>?_,h.m0,h.eE,h.keep.alloc _⟩
 .rw[kY]at j;by_cases a:s=d/\g=(st.site d).length
  .rw[aW a]at j;cases j;obtain⟨rfl,rfl⟩:=a;refine⟨t,u,h3,λp=>(by simp[Cz.bO]at p),λb f=>?_⟩;simp only[Cz.bO,and_self,cB,cF]at f ⊢;subst f;exact⟨cur,T,vals,heap_alloc_new w _,aG.mono hz y,z,A,C,D⟩
  .rw[aY a]at j;exact(h.bR s g o' j).later hz (n a) (E a) (λb f=>heap_alloc_old w _ b (h.lt j f))
 .rw[kY]at j m;by_cases a:s=d/\g=(st.site d).length<;>by_cases k:s'=d/\g'=(st.site d).length
  .exact⟨a.1.trans k.1.symm,a.2.trans k.2.symm⟩
  .rw[aY k]at m;rw[n k]at l;obtain⟨rfl,rfl⟩:=a;simp only[Cz.bO,and_self,cB,cF]at f;have:=h.lt m l;omega
  .rw[aY a]at j;rw[n a]at f;obtain⟨rfl,rfl⟩:=k;simp only[Cz.bO,and_self,cB,cF]at l;have:=h.lt j f;omega
  .rw[aY a]at j;rw[aY k]at m;rw[n a]at f;rw[n k]at l;exact h.inj s g s' g' o' r b j m f l
 .rw[heap_alloc_old w _ b (h.F3 f)];exact h.mem b o' f
 .rw[kY]at j;by_cases a:s=d/\g=(st.site d).length
  .obtain⟨rfl,rfl⟩:=a;simp only[Cz.bO,and_self,cB,cF]at f;subst f;cases hm:Z.M w.heap.size with
   | none=>exact hm
   | some x=>have:=h.F3 hm;omega
  .rw[aY a]at j;rw[n a]at f;exact h.sep s g o' b j f
 .rw[kY]at j;by_cases a:s=d/\g=(st.site d).length
  .obtain⟨rfl,rfl⟩:=a;simp only[Cz.bO,and_self,cB,cF]at f;subst f;exact .inr h.keep.size
  .rw[aY a]at j;rw[n a]at f;exact h.own s g o' b j f
def bC.iM{K:Ctx}{Z:Cz}{st:St}{w:World}(h:bC K Z st w)(d sz:Nat)(r:0<sz) :
  bC K (Z.bO d (st.site d).length none 0) (st.alloc d ⟨sz,[]⟩) w:=by
 have hz:=cO.alloc Z st d ⟨sz,[]⟩ none 0;have n:∀ {s g:Nat},¬ (s=d/\g=(st.site d).length)->(Z.bO d (st.site d).length none 0).B s g=Z.B s g:=λf=>by simp only[Cz.bO];rw[aY f]
 have t:∀ {s g:Nat},¬ (s=d/\g=(st.site d).length)->(Z.bO d (st.site d).length none 0).cap s g=Z.cap s g:=λf=>by simp only[Cz.bO];rw[aY f]
 have old:∀ {s g:Nat} {o':bD} {b:Nat},(st.alloc d ⟨sz,[]⟩).obj s g=some o'->(Z.bO d (st.site d).length none 0).B s g=some b->st.obj s g=some o'/\Z.B s g=some b:=by
  intro s g o' b a i;rw[kY]at a;by_cases f:s=d/\g=(st.site d).length
  .obtain⟨rfl,rfl⟩:=f;simp[Cz.bO]at i
  .rw[aY f]at a;rw[n f]at i;exact⟨a,i⟩
 refine⟨λs g o' a=>?_,λs g s' g' o' m b a l i k=>?_,h.mem,λs g o' b a i=>?_,λs g o' b a i=>?_,h.m0,h.eE,h.keep⟩
 .rw[kY]at a;by_cases f:s=d/\g=(st.site d).length
  .rw[aW f]at a;cases a;obtain⟨rfl,rfl⟩:=f;exact⟨r,by simp,by simp,λ_=>rfl,λb i=>by simp[Cz.bO]at i⟩
  .rw[aY f]at a;exact(h.bR s g o' a).later hz (n f) (t f) (λ_ _=>rfl)
 .obtain⟨a1,j⟩:=old a i;obtain⟨o,p⟩:=old l k;exact h.inj s g s' g' o' m b a1 o j p
 .obtain⟨a1,j⟩:=old a i;exact h.sep s g o' b a1 j
 .obtain⟨a1,j⟩:=old a i;exact h.own s g o' b a1 j
def bC.kill{K:Ctx}{Z:Cz}{st:St}{w:World}(h:bC K Z st w)(s g:Nat):bC K Z (st.kill s g) w:=by
 have old:∀ {s' g':Nat} {o':bD},(st.kill s g).obj s' g'=some o'->st.obj s' g'=some o':=by
  intro s' g' o' a;rw[AS]at a;split at a
  .grind
  .omega
 exact⟨λs' g' o' a=>(h.bR s' g' o' (old a)).later (cO.kill Z st s g) rfl rfl (λ_ _=>rfl),
  λ_ _ _ _ _ _ b a1 d=>h.inj _ _ _ _ _ _ b (old a1) (old d),h.mem,λ_ _ _ b a1=>h.sep _ _ _ b (old a1),λ_ _ _ b a1=>h.own _ _ _ b (old a1),h.m0,h.eE,h.keep⟩
def bC.setObj{K:Ctx}{Z:Cz}{st:St}{w:World}(h:bC K Z st w){s g:Nat}{o:bD}(j:st.obj s g=some o){b:Nat}(k:Z.B s g=some b)
  (es:List AV) (cur:Array Value) (vals:List Value) (C:∀ e∈es,e.sz=o.sz) (h3:∀ x∈es.flatMap AV.cells,x.one=true) (hl:es.length=o.es.length)
  (D:aG Z st (es.flatMap AV.cells) vals) (E:∀ (i:Nat) (v:Value),vals[i]?=some v->cur[i]?=some v) (F:cur.size=Z.cap s g*o.sz) :
  bC K Z (st.setObj s g ⟨o.sz,es⟩) (w.setRow b cur):=by
 have y:=nO j;have hz:=cO.setObj Z st s g o ⟨o.sz,es⟩ j rfl hl;obtain⟨old,T,R,G,N,O,Q,H,I⟩:=(h.bR s g o j).bU b k;have p:∀ {s' g':Nat} {o':bD},(st.setObj s g ⟨o.sz,es⟩).obj s' g'=some o'->∃ o1,st.obj s' g'=some o1:=by
  intro s' g' o' t;rw[vp _ _ _ _ _ _ y]at t;split at t
  .rename_i l;obtain⟨rfl,rfl⟩:=l;exact⟨o,j⟩
  .exact⟨o',t⟩
 refine⟨λs' g' o' f=>?_,λs' g' u r o' J d a1 m z A=>?_,λd o' a=>?_,λs' g' o' d a1 m=>?_,λs' g' o' d a1 m=>?_,h.m0,h.eE,h.keep.setRow _ _ (h.own s g o b j k)⟩
 .rw[vp _ _ _ _ _ _ y]at f;by_cases l:s'=s/\g'=g
  .rw[if_pos l]at f;cases f;obtain⟨rfl,rfl⟩:=l;refine⟨(h.bR s' g' o j).pos,C,h3,λhn=>(by rw[k]at hn;cases hn),λd a=>?_⟩;rw[k]at a;cases a;exact⟨cur,T,vals,setRow_heap w b old cur T (0,0) G,aG.mono hz D,E,F,by simpa[hl]using H,I⟩
  .rw[aY l]at f;refine(h.bR s' g' o' f).later hz rfl rfl (λd a=>setRow_other w b d cur ?_);rintro rfl;exact l (h.inj s' g' s g o' o d f j a k)
 .obtain⟨o1,n⟩:=p a1;obtain⟨L,M⟩:=p m;exact h.inj s' g' u r o1 L d n M z A
 .rw[setRow_other w b d cur (by rintro rfl;rw[h.sep s g o d j k]at a;cases a)];exact h.mem d o' a
 .obtain⟨o1,n⟩:=p a1;exact h.sep s' g' o1 d n m
 .obtain⟨o1,n⟩:=p a1;exact h.own s' g' o1 d n m
def bC.move{K:Ctx}{Z:Cz}{st:St}{w:World}(h:bC K Z st w){s g:Nat}{o:bD}(p:st.obj s g=some o){b:Nat}(r:Z.B s g=some b)(d:Nat)
  (es:List AV) (cur:Array Value) (vals:List Value) (M:∀ e∈es,e.sz=o.sz) (h3:∀ x∈es.flatMap AV.cells,x.one=true) (hl:es.length<=Z.cap s g)
  (N:aG Z st (es.flatMap AV.cells) vals) (O:∀ (i:Nat) (v:Value),vals[i]?=some v->cur[i]?=some v) (Q:cur.size=Z.cap s g*o.sz) :
  bC K (Z.bO d ((st.kill s g).site d).length (some b) (Z.cap s g)) ((st.kill s g).alloc d ⟨o.sz,es⟩) (w.setRow b cur) /\
  cO Z st (Z.bO d ((st.kill s g).site d).length (some b) (Z.cap s g)) ((st.kill s g).alloc d ⟨o.sz,es⟩):=by
 have S:=cO.kill Z st s g;have hz:cO Z st (Z.bO d ((st.kill s g).site d).length (some b) (Z.cap s g)) ((st.kill s g).alloc d ⟨o.sz,es⟩):=S.trans (cO.alloc Z (st.kill s g) d ⟨o.sz,es⟩ (some b) (Z.cap s g));obtain⟨old,T,ov,U,X,Y,k4,k5,V⟩:=(h.bR s g o p).bU b r;generalize hn:((st.kill s g).site d).length=n at *
 have A:∀ {s' g':Nat} {o':bD},((st.kill s g).alloc d ⟨o.sz,es⟩).obj s' g'=some o'->¬ (s'=d/\g'=n)->st.obj s' g'=some o'/\¬ (s'=s/\g'=g):=by
  intro s' g' o' f y;rw[kY,hn,aY y,AS]at f;split at f
  .cases f
  .rename_i L;exact⟨f,L⟩
 have u:∀ {s' g':Nat},¬ (s'=d/\g'=n)->(Z.bO d n (some b) (Z.cap s g)).B s' g'=Z.B s' g':=λf=>by simp only[Cz.bO];rw[aY f]
 have R:∀ {s' g':Nat},¬ (s'=d/\g'=n)->(Z.bO d n (some b) (Z.cap s g)).cap s' g'=Z.cap s' g':=λf=>by simp only[Cz.bO];rw[aY f]
 refine⟨⟨λs' g' o' z=>?_,λs' g' C t o' G k a1 m D E=>?_,λk o' a=>?_,λs' g' o' k a1 m=>?_,λs' g' o' k a1 m=>?_,h.m0,h.eE,h.keep.setRow _ _ (h.own s g o b p r)⟩,hz⟩
 .by_cases l:s'=d/\g'=n
  .rw[kY,hn,aW l]at z;cases z;obtain⟨rfl,rfl⟩:=l;refine⟨(h.bR s g o p).pos,M,h3,λI=>(by simp[Cz.bO]at I),λk a=>?_⟩;simp only[Cz.bO,and_self,cB,cF]at a ⊢;subst a;exact⟨cur,T,vals,setRow_heap w b old cur T (0,0) U,aG.mono hz N,O,Q,hl,V⟩
  .obtain⟨F,y⟩:=A z l;refine(h.bR s' g' o' F).later hz (u l) (R l) (λk a=>setRow_other w b k cur ?_);rintro rfl;exact y (h.inj s' g' s g o' o k F p a r)
 .by_cases f:s'=d/\g'=n<;>by_cases j:C=d/\t=n
  .exact⟨f.1.trans j.1.symm,f.2.trans j.2.symm⟩
  .obtain⟨H,J⟩:=A m j;rw[u j]at E;obtain⟨rfl,rfl⟩:=f;simp only[Cz.bO,and_self,cB,cF]at D;subst D;exact absurd (h.inj C t s g G o b H p E r) J
  .obtain⟨H,J⟩:=A a1 f;rw[u f]at D;obtain⟨rfl,rfl⟩:=j;simp only[Cz.bO,and_self,cB,cF]at E;subst E;exact absurd (h.inj s' g' s g o' o b H p D r) J
  .obtain⟨H,_⟩:=A a1 f;obtain⟨W,_⟩:=A m j;rw[u f]at D;rw[u j]at E;exact h.inj s' g' C t o' G k H W D E
 .rw[setRow_other w b k cur (by rintro rfl;have:=h.sep s g o k p r;simp only[Cz.bO]at a;rw[this]at a;cases a)];exact h.mem k o' a
 .by_cases l:s'=d/\g'=n
  .obtain⟨rfl,rfl⟩:=l;simp only[Cz.bO,and_self,cB,cF]at m;subst m;exact h.sep s g o b p r
  .rw[u l]at m;exact h.sep s' g' o' k (A a1 l).1 m
 .by_cases l:s'=d/\g'=n
  .obtain⟨rfl,rfl⟩:=l;simp only[Cz.bO,and_self,cB,cF]at m;subst m;exact h.own s g o b p r
  .rw[u l]at m;exact h.own s' g' o' k (A a1 l).1 m
end Go.Ab
