/- Lemmas for the law AmbiguityCounts, part 0. No conditions. -/
import Derived.Calls
import Derived.Orders
import Derived.Laws.AppendOwn
import Derived.Laws.MakeOwn
set_option maxRecDepth 100000
set_option maxHeartbeats 4000000
set_option linter.all false
namespace Go.Ab
def yf0:=@if_neg
def yf1:=@if_pos
def yf2:=@if_true
def yf3:=@Option.some.injEq
def yf4:=@List.mem_cons
def yf5:=@Prod.mk.injEq
def yf6:=@List.mem_map
def yf7:=@Nat.le_trans
def yf8:=@Nat.le_refl
def yf9:=@if_false
def yfi:=@List.getElem_mem
def yfj:=@List.getD_eq_getElem?_getD
def yfk:=@List.mem_append
def yfl:=@Bool.false_eq_true
def yfm:=@List.getElem?_eq_getElem
def yfn:=@Nat.pow_succ
def yfo:=@Nat.lt_of_lt_of_le
def yfp:=@List.all_eq_true
def yfq:=@List.map_cons
def yfr:=@Bool.and_eq_true
def yfs:=@List.take_length
def yft:=@List.flatMap_cons
def yfu:=@List.take_succ_eq_append_getElem
def yfv:=@Nat.mul_assoc
def yfw:=@List.take_of_length_le
def yfx:=@Sem.run_bind
def yfy:=@Nat.mul_comm
def yfz:=@Nat.mul_le_mul
def yg0:=@Sem.run_pure
def yg1:=@Nat.lt_or_ge
def yg2:=@List.length_cons
def yg3:=@List.mem_flatMap
def yg4:=@Nat.zero_le
def yg5:=@Nat.mul_add
def yg6:=@Nat.pow_le_pow_right
def yg7:=@Nat.mul_le_mul_right
def yg8:=@Result.andThen_ok
def yg9:=@Nat.pow_add
def yga:=@List.mem_of_mem_drop
def ygb:=@List.mem_of_mem_take
def ygc:=@List.map_congr_left
def ygd:=@List.not_mem_nil
def yge:=@Bool.eq_false_or_eq_true
def ygf:=@Nat.add_mul
def ygg:=@List.pairwise_cons
def ygh:=@Array.getElem?_eq_some_iff
def ygi:=@List.length_append
def ygj:=@List.mem_singleton
def ygk:=@List.mem_cons_of_mem
def ygl:=@Nat.add_zero
def ygm:=@Nat.zero_add
def ygn:=@List.nodup_cons
def ygo:=@Rat.add_zero
def ygp:=@List.drop_drop
def ygq:=@Nat.mod_lt
def ygr:=@Ne.symm
def ygs:=@Nat.pow_pos
def ygt:=@Nat.succ_mul
def ygu:=@Nat.mod_eq_of_lt
def ygv:=@Option.map_eq_some_iff
def ygw:=@List.filter_cons
def ygx:=@List.map_append
def ygy:=@List.mem_range
def ygz:=@List.pairwise_append
def yh0:=@List.mem_filter
def yh1:=@Nat.mul_le_mul_left
def yh2:=@Nat.lt_of_le_of_lt
def yh3:=@List.length_filter_le
def yh4:=@Int.toNat_natCast
def yh5:=@List.foldl_append
def yh6:=@List.getElem?_eq_some_iff
def yh7:=@List.nil_append
def yh8:=@List.length_take
def yh9:=@List.replicate_succ
def yha:=@Nat.eq_zero_or_pos
def yhb:=@Nat.div_div_eq_div_mul
def yhc:=@Nat.mul_lt_mul''
def yhd:=@Rat.add_assoc
def yhe:=@List.length_singleton
def yhf:=@List.drop_of_length_le
def yhg:=@List.getElem?_append_right
def yhh:=@Nat.add_assoc
def yhi:=@List.mem_of_getElem?
def yhj:=@Nat.min_eq_left
def yhk:=@List.length_drop
def yhl:=@List.map_map
def yhm:=@List.flatMap_append
def yhn:=@Option.getD_some
def yho:=@List.drop_eq_getElem_cons
def yhp:=@Bool.true_and
def yhq:=@List.ext_getElem
def yhr:=@List.append_assoc
def yhs:=@List.mem_replicate
def yht:=@List.map_set
def yhu:=@Nat.div_eq_of_lt
def yhv:=@Nat.div_le_self
def yhw:=@Rat.add_comm
def yhx:=@List.drop_zero
def yhy:=@Option.isSome_iff_exists
def yhz:=@List.mapM_cons
def yi0:=@Option.map_some
def yi1:=@List.all_cons
def yi2:=@List.cons_append
def yi3:=@List.getElem?_eq_none
def yi4:=@List.length_nil
def yi5:=@Nat.div_lt_iff_lt_mul
def yi6:=@Rat.zero_add
def yi7:=@List.foldl_cons
def yi8:=@List.lt_irrefl
def yi9:=@Rat.not_lt
def yia:=@List.append_nil
def yib:=@Nat.add_sub_cancel
def yic:=@List.getElem?_drop
def yid:=@List.getElem?_append_left
def yie:=@List.take_take
def yif:=@List.take_append_drop
def yig:=@List.length_map
def yih:=@List.length_pos_iff
def yii:=@List.eq_nil_of_length_eq_zero
def yij:=@Bool.or_eq_true
def yik:=@Array.getElem?_eq_none
def yil:=@Nat.sub_self
def yim:=@List.getElem?_map
def yin:=@Array.mapM_eq_mapM_toList
def yio:=@Int.natCast_ediv
def yip:=@List.mem_cons_self
def yiq:=@List.filter_append
def yir:=@Nat.zero_mul
def yis:=@List.drop_append_of_le_length
def yit:=@List.getElem?_take
def yiu:=@Array.length_toList
def yiv:=@Array.toList_map
def yiw:=@Nat.le_mul_of_pos_right
def yix:=@List.range'_succ
def yiy:=@List.contains_iff_mem
def yiz:=@Oper.upon_enter
def yj0:=@List.map_take
def yj1:=@Int.tmod_eq_emod_of_nonneg
def yj2:=@Int.natCast_emod
def yj3:=@List.drop_eq_nil_of_le
def yj4:=@Nat.div_add_mod
def yj5:=@List.replicate_succ'
def yj6:=@Bool.eq_iff_iff
def yj7:=@List.filterMap_cons
def yj8:=@List.take_append_of_le_length
def yj9:=@List.ext_getElem?
def yja:=@List.drop_take
def yjb:=@List.size_toArray
def yjc:=@List.take_succ_cons
def yjd:=@List.drop_succ_cons
def yje:=@List.mem_flatten
def yjf:=@List.length_eq_zero_iff
def yjg:=@List.nodup_append
def yjh:=@Array.getD_eq_getD_getElem?
def yji:=@List.map_nil
def yjj:=@Nat.not_lt_zero
def yjk:=@Nat.add_mul_div_left
def yjl:=@Nat.pos_of_ne_zero
def yjm:=@Rat.sub_eq_add_neg
def yjn:=@List.filter_eq_nil_iff
def yjo:=@List.filter_eq_self
def yjp:=@List.mem_iff_getElem
def yjq:=@List.range_succ
def yjr:=@Bool.and_true
def yjs:=@List.mem_or_eq_of_mem_set
def yjt:=@Bool.true_eq_false
def yju:=@List.append_of_mem
def yjv:=@List.Pairwise.sublist
def yjw:=@Array.getElem?_replicate
def yjx:=@Bool.not_eq_true'
def yjy:=@Function.comp_apply
def yjz:=@Nat.or_lt_two_pow
def yk0:=@List.getElem?_set
def yk1:=@Nat.eq_zero_of_not_pos
def yk2:=@Nat.add_mul_mod_self_left
def yk3:=@Nat.le_div_iff_mul_le
def yk4:=@List.findIdx?_eq_none_iff
def yk5:=@List.findIdx?_eq_some_iff_getElem
def yk6:=@List.set_append_right
def yk7:=@Nat.gcd_pos_of_pos_left
def yk8:=@Nat.pow_lt_pow_right
def yk9:=@List.singleton_append
def yka:=@List.eq_nil_or_concat
def ykb:=@List.concat_eq_append
def ykc:=@List.cons_lt_cons_iff
def ykd:=@Int.emod_lt_of_pos
def yke:=@Nat.succ_le_of_lt
def ykf:=@Array.eq_empty_of_size_eq_zero
def ykg:=@List.eq_nil_iff_forall_not_mem
def ykh:=@Array.getElem?_setIfInBounds_self
inductive PV where
 | bool (b:Bool)
 | int (k:IntKind) (n:Int)
 | str (s:ByteArray)
 | sl (es:List PV)
 | agg (cs:List PV)
 | fn (f:FuncId) (caps:List PV)
 | ref (v:PV)
 | nilfn
 | tup (vs:List PV)
 | any
 | nl
 | sle
 | mapv (r:Nat)
 | itv (r:Nat)
 | mp (r:Nat) (ks vs:List PV)
 | bm (f:FuncId) (v:PV)
 deriving Inhabited
inductive AV where
 | p (v:PV)
 | nil
 | own (s g off len:Nat)
 | ptr (s g ix off:Nat)
 | cp (v:PV) (vsz off:Nat)
 | agg (cs:List AV)
 | fn (f:FuncId) (caps:List AV)
 | tup (vs:List AV)
 | skip
 | undef
 deriving Inhabited
def PV.cells:PV->List PV
 | .agg cs=>cs
 | v=>[v]
def AV.cells:AV->List AV
 | .p (.agg cs)=>cs.map .p
 | .agg cs=>cs
 | v=>[v]
def PV.one:PV->Bool
 | .agg _ | .tup _=>false
 | _=>true
def AV.one:AV->Bool
 | .p v=>v.one
 | .agg _ | .tup _ | .skip | .undef=>false
 | _=>true
def PV.sz:PV->Nat
 | .agg cs=>if cs.length<=1 then 0 else cs.length
 | .tup _=>0
 | _=>1
def AV.sz:AV->Nat
 | .p v=>v.sz
 | .agg cs=>if cs.length<=1 then 0 else cs.length
 | .tup _ | .skip | .undef=>0
 | _=>1
def allP:List AV->Option (List PV)
 | []=>some []
 | .p v::r=>match allP r with
  | some vs=>some (v::vs)
  | none=>none
 | _::_=>none
def mkAgg(cs:List AV):AV :=
 match allP cs with
 | some ps=>.p (.agg ps)
 | none=>.agg cs
def PV.seg(v:PV)(off sz:Nat)(ag:Bool):Option PV :=
 if ag then(if ((v.cells.drop off).take sz).length=sz/\1<sz then some (.agg ((v.cells.drop off).take sz))else none)
 else if sz=1 then((v.cells.drop off).take 1).head? else none
def AV.seg(v:AV)(off sz:Nat)(ag:Bool):Option AV :=
 if ag then(if ((v.cells.drop off).take sz).length=sz/\1<sz then some (mkAgg ((v.cells.drop off).take sz))else none)
 else if sz=1 then((v.cells.drop off).take 1).head? else none
def AV.acells:AV->Option (List AV)
 | .p (.agg cs)=>some (cs.map .p)
 | .agg cs=>some cs
 | _=>none
def segL(cs:List AV)(off sz:Nat)(ag:Bool):Option AV :=
 if ag then(if ((cs.drop off).take sz).length=sz/\1<sz then some (mkAgg ((cs.drop off).take sz))else none)
 else if sz=1 then((cs.drop off).take 1).head? else none
def AV.setSeg(v:AV)(off:Nat)(x:AV):Option AV :=
 if off+x.cells.length<=v.cells.length/\1<v.cells.length then
  some (mkAgg (v.cells.take off++x.cells++v.cells.drop (off+x.cells.length)))else none
structure AObj where
 sz:Nat
 es:List AV
def look{α : Type}(l:List (Nat × α))(t:Nat)(d : α) : α :=
 match l with
 | []=>d
 | (k,v)::r=>if k=t then v else look r t d
structure St where
 sl:List (Nat × AV)
 hp:List (Nat × List (Option AObj))
def St.get(st:St)(t:Nat):AV:=look st.sl t .undef
def St.site(st:St)(s:Nat):List (Option AObj):=look st.hp s []
def St.obj(st:St)(s g:Nat):Option AObj:=((st.site s)[g]?).getD none
def St.put(st:St)(d:Option Nat)(v:AV):St :=
 match d with
 | some t=>{ st with sl:=(t,v)::st.sl }
 | none=>st
inductive Opd where
 | t (n:Nat)
 | c (v:AV)
def St.ev(st:St):Opd->AV
 | .t n=>st.get n
 | .c v=>v
def LIM:Nat:=2147483648
def toPV(st:St):Nat->AV->Option PV
 | 0,v=>if v.one then some .any else none
 | n+1,v=>match v with
  | .p v=>some v
  | .nil=>some (.sl [])
  | .own s g off len=>match st.obj s g with
   | some o=>if off+len<=o.es.length then(((o.es.drop off).take len).mapM (toPV st n)).map .sl else none
   | none=>none
  | .ptr s g ix off=>if ix=0/\off=0 then match st.obj s g with
   | some o=>match o.es with
    | [e]=>(toPV st n e).map .ref
    | _=>none
   | none=>none
   else none
  | .cp v _ off=>if off=0 then some (.ref v)else none
  | .agg cs=>(cs.mapM (toPV st n)).map .agg
  | .fn f caps=>(caps.mapM (toPV st n)).map (.fn f)
  | .tup vs=>(vs.mapM (toPV st n)).map .tup
  | .skip | .undef=>none
def deps(st:St):Nat->AV->List (Nat × Nat)
 | 0,_=>[]
 | n+1,v=>match v with
  | .own s g _ _=>(s,g)::(match st.obj s g with
   | some o=>o.es.flatMap (deps st n)
   | none=>[])
  | .ptr s g _ _=>(s,g)::(match st.obj s g with
   | some o=>o.es.flatMap (deps st n)
   | none=>[])
  | .agg cs=>cs.flatMap (deps st n)
  | .fn _ caps=>caps.flatMap (deps st n)
  | .tup vs=>vs.flatMap (deps st n)
  | _=>[]
def FUEL:Nat:=6
def PV.flat1:PV->Bool
 | .bool _ | .int _ _ | .str _ | .nilfn | .any=>true
 | _=>false
def PV.flat:PV->Bool
 | .agg cs=>cs.all PV.flat1
 | v=>v.flat1
def PV.unit:PV->Bool
 | .tup []=>true
 | _=>false
inductive IOp where
 | mv (x:Opd)
 | pick (c a b:Opd)
 | alloc (sz:Nat) (zero:AV)
 | box (sz:Nat) (x:Opd)
 | build (zero:List AV) (parts:List (Nat × Nat × Opd))
 | bslice (sz:Nat) (zero:AV) (n:Nat) (parts:List (Nat × Opd))
 | load (sz:Nat) (ag:Bool) (x:Opd)
 | store (sz:Nat) (a v:Opd)
 | nilck (x:Opd)
 | ibin (op:BinOp) (x y:Opd)
 | bbin (op:BinOp) (x y:Opd)
 | abin (ks:List (Option IntKind)) (op:BinOp) (x y:Opd)
 | not (x:Opd)
 | neg (x:Opd)
 | ixor (x:Opd)
 | conv (k:IntKind) (x:Opd)
 | mkfn (f:FuncId) (caps:List Opd)
 | mkbm (f:FuncId) (x:Opd)
 | mkslice (sz:Nat) (zero:AV) (len cap:Opd)
 | slice (sz:Nat) (x:Opd) (lo hi:Option Opd)
 | faddr (off:Nat) (x:Opd)
 | field (off sz:Nat) (ag:Bool) (x:Opd)
 | iaddr (sz:Nat) (x i:Opd)
 | iaddrA (n sz:Nat) (x i:Opd)
 | idx (n sz:Nat) (ag:Bool) (x i:Opd)
 | extract (x:Opd) (i:Nat)
 | len (x:Opd)
 | append (sz:Nat) (a x:Opd)
 | min (xs:List Opd)
 | max (xs:List Opd)
 | call (f:FuncId) (args:List Opd)
 | callv (f:Opd) (args:List Opd)
 | isnil (neg:Bool) (x:Opd)
 | cap (x:Opd)
 | clear (sz:Nat) (zero:AV) (x:Opd)
 | appendz (sz:Nat) (zero:AV) (a n:Opd)
 | sidx (x i:Opd)
 | mlook (qs:List IntKind) (zero:AV) (x k:Opd)
 | mlookc (qs:List IntKind) (zero:AV) (x k:Opd)
 | raw (op:Op)
 | bad
structure Ins where
 dst:Option Nat
 op:IOp
 guard:Option (Nat × Bool)
inductive AC where
 | nop
 | reg (ops:List Ins)
 | regD (ops:List Ins) (pre:List (List Nat))
 | seq (a b:AC)
 | cond (c:Opd) (a b:AC)
 | blk (id:Nat) (b:AC)
 | loop (b:AC)
 | scp (b:AC)
 | ext (id:Nat)
 | ret
 | bad
def eqI:List PV->List PV->Bool
 | [],[]=>true
 | .int k a::r,.int k' b::s=>decide (k=k')&&decide (a=b)&&eqI r s
 | _,_=>false
def zbu(kc:List PV):List PV->List PV->Option PV
 | .agg c::ks,v::vs=>if eqI c kc=true then some v else zbu kc ks vs
 | _::ks,_::vs=>zbu kc ks vs
 | _,_=>none
def zcl:List IntKind->List PV->Bool
 | [],[]=>true
 | q::qs,.int k n::r=>decide (k=q)&&(Lit.int k n).wf&&zcl qs r
 | _,_=>false
def zek(qs:List IntKind):PV->Bool
 | .agg c=>zcl qs c
 | _=>false
abbrev Site:=Nat × List (Option AObj)
inductive HV
 | av (v:AV)
 | fr (sz:Nat) (es:List PV)
 | bx (sz:Nat) (e:AV) (us:List PV)
inductive RV where
 | pure (v:PV)
 | fresh (sz:Nat) (es:List PV)
 | same (len:Nat)
 | hsp (vs:List AV) (hp:List Site) (res:HV) (hp':List Site)
def PV.flatU(v:PV):Bool:=v.flat||v.unit
def RV.flat:RV->Bool
 | .pure v=>v.flatU
 | .fresh _ es=>es.all PV.flat
 | .same _=>true
 | .hsp _ _ _ _=>true
structure PCall where
 f:FuncId
 args:List PV
 res:RV
 tn:Option (Nat × Nat × List PV):=none
def zjb(op:BinOp)(k:IntKind)(a b:Int):Option PV :=
 match op with
 | .add=>some (.int k (k.wrap (a+b)))
 | .sub=>some (.int k (k.wrap (a - b)))
 | .mul=>some (.int k (k.wrap (a*b)))
 | .quo=>if b=0 then none else some (.int k (k.wrap (a.tdiv b)))
 | .rem=>if b=0 then none else some (.int k (a.tmod b))
 | .and=>some (.int k (k.wrap (BitVec.ofInt k.bits a &&& BitVec.ofInt k.bits b).toNat))
 | .or=>some (.int k (k.wrap (BitVec.ofInt k.bits a ||| BitVec.ofInt k.bits b).toNat))
 | .xor=>some (.int k (k.wrap (BitVec.ofInt k.bits a ^^^ BitVec.ofInt k.bits b).toNat))
 | .andNot=>some (.int k (k.wrap (BitVec.ofInt k.bits a &&& ~~~ BitVec.ofInt k.bits b).toNat))
 | .eql=>some (.bool (a == b))
 | .neq=>some (.bool (a != b))
 | .lss=>some (.bool (a<b))
 | .leq=>some (.bool (a<=b))
 | .gtr=>some (.bool (a>b))
 | .geq=>some (.bool (a ≥ b))
 | _=>none
def zh0(op:BinOp)(k:IntKind)(a b:Int):Option PV :=
 if b<0 then none else match op with
 | .shl=>some (.int k (k.wrap (a*2^Nat.min b.toNat k.bits)))
 | .shr=>some (.int k (a.fdiv (2^Nat.min b.toNat k.bits)))
 | _=>none
def zdu:BinOp->Bool
 | .shl | .shr=>true
 | _=>false
def ibin(op:BinOp)(x y:AV):Option PV :=
 match x,y with
 | .p (.int k a),.p (.int k' b)=>if zdu op then zh0 op k a b else if k=k' then zjb op k a b else none
 | _,_=>none
def bbin(op:BinOp)(x y:AV):Option PV :=
 match x,y with
 | .p (.bool a),.p (.bool b)=>match op with
  | .eql=>some (.bool (a == b))
  | .neq=>some (.bool (!(a == b)))
  | _=>none
 | _,_=>none
def zcf:List (Option IntKind)->List PV->List PV->Option Bool
 | [],[],[]=>some true
 | some k::ks,.int k1 a::r,.int k2 b::s=>if k1=k/\k2=k then(match zcf ks r s with|some t=>some (a == b&&t)|none=>none)else none
 | none::ks,.bool a::r,.bool b::s=>match zcf ks r s with|some t=>some ((a == b)&&t)|none=>none
 | _,_,_=>none
def abin(ks:List (Option IntKind))(op:BinOp)(x y:AV):Option PV :=
 match x,y with
 | .p (.agg xs),.p (.agg ys)=>match zcf ks xs ys,op with
  | some t,.eql=>some (.bool t)
  | some t,.neq=>some (.bool (!t))
  | _,_=>none
 | _,_=>none
def AV.pur1:AV->AV
 | .nil=>.p (.sl [])
 | v=>v
def AV.pur:AV->AV
 | .nil=>.p (.sl [])
 | .agg cs=>mkAgg (cs.map AV.pur1)
 | v=>v
def AV.pur0:AV->AV
 | .nil=>.nil
 | v=>v.pur
def St.elems(st:St):AV->Option (List AV)
 | .p (.sl es)=>some (es.map .p)
 | .nil=>some []
 | .p .nl=>some []
 | .p .sle=>some []
 | .own s g off len=>match st.obj s g with
  | some o=>if off+len<=o.es.length then some ((o.es.drop off).take len)else none
  | none=>none
 | _=>none
def ziq:AV->Option Nat
 | .p (.int _ n)=>if 0<=n then some n.toNat else none
 | _=>none
def zdk(st:St)(o:Option Opd)(n:Nat):Option Nat :=
 match o with
 | some x=>ziq (st.ev x)
 | none=>some n
def zcy(cells:List AV):List (Nat × Nat × AV)->Option (List AV)
 | []=>some cells
 | (off,sz,v)::r=>if v.sz=sz/\0<sz/\off+sz<=cells.length then zcy (cells.take off++v.cells++cells.drop (off+sz)) r else none
def zcz(es:List AV)(sz:Nat):List (Nat × AV)->Option (List AV)
 | []=>some es
 | (i,v)::r=>if v.sz=sz/\i<es.length then zcz (es.set i v) sz r else none
def zbe(l:List (Option AObj))(g:Nat):List (Option AObj):=l.set g none
def killAll(st:St):List (Nat × Nat)->St
 | []=>st
 | (s,g)::r=>killAll { st with hp:=(s,zbe (st.site s) g)::st.hp } r
def St.alloc(st:St)(d:Nat)(o:AObj):St:={ st with hp:=(d,st.site d++[some o])::st.hp }
def St.setObj(st:St)(s g:Nat)(o:AObj):St:={ st with hp:=(s,(st.site s).set g (some o))::st.hp }
def zgj(mx:Bool):List AV->Option PV
 | .p (.int k a)::r=>r.foldlM (fun acc v=>match acc,v with
  | .int k a,.p (.int k' b)=>if k=k' then some (.int k (if mx then(if b>a then b else a)else(if b<a then b else a)))else none
  | _,_=>none) (.int k a)
 | _=>none
def zex(c:PCall)(st:St)(d:Nat)(ids:List (Nat × Nat)):Option (AV × St) :=
 let st1:=if c.res.flat then st else killAll st ids
 match c.res with
 | .pure v=>some (.p v,st1)
 | .fresh sz es=>if es.all (fun v=>v.sz == sz)=true/\0<sz/\es.length<=LIM then some (.own d (st1.site d).length 0 es.length,st1.alloc d ⟨sz,es.map .p⟩)else none
 | .same _=>none
 | .hsp _ _ _ _=>none
def zi5:Option AV->Option (Nat × Nat × Nat × Bool)
 | some (.own s g off len)=>if off=0 then some (s,g,len,true)else none
 | some (.ptr s g ix off)=>if ix=0/\off=0 then some (s,g,1,false)else none
 | _=>none
def zu5(c:PCall)(es':List PV)(st:St)(ids:List (Nat × Nat))(s g sz:Nat):St :=
 (if (c.res.flat&&es'.all PV.flat)=true then st else killAll st ids).setObj s g ⟨sz,es'.map .p⟩
def zfz(c:PCall)(i sz:Nat)(es':List PV)(st:St)(vs:List AV):Option (AV × St) :=
 match zi5 vs[i]? with
 | some (s,g,len,sl)=>match st.obj s g with
  | some o =>
   let ids:=(vs.eraseIdx i).flatMap (deps st FUEL)++o.es.flatMap (deps st 5)
   if i<vs.length/\len=o.es.length/\es'.length=len/\o.sz=sz/\es'.all (fun v=>v.sz == sz)=true/\(es'.flatMap PV.cells).all PV.one=true/\ids.contains (s,g)=false then
    let st1:=zu5 c es' st ids s g sz
    match c.res with
    | .pure v=>some (.p v,st1)
    | .fresh _ _=>none
    | .same l=>if l<=len/\sl=true then some (.own s g 0 l,st1)else none
    | .hsp _ _ _ _=>none
   else none
  | none=>none
 | none=>none
mutual
def zce(ks:List Nat):AV->Bool
 | .own s _ _ _=>ks.contains s
 | .ptr s _ _ _=>ks.contains s
 | .agg cs=>zam ks cs
 | .fn _ cs=>zam ks cs
 | .tup cs=>zam ks cs
 | _=>true
def zam(ks:List Nat):List AV->Bool
 | []=>true
 | v::r=>zce ks v&&zam ks r
end
def ze5(ks:List Nat):Option AObj->Bool
 | none=>true
 | some o=>zam ks o.es
def hpOk(ks:List Nat)(hp:List Site):Bool:=hp.all fun q=>q.2.all (ze5 ks)
def zdi(ks:List Nat):HV->Bool
 | .av v=>zce ks v
 | .fr sz es=>es.all (fun e=>e.sz == sz)&&decide (0<sz)
 | .bx sz e _=>e.sz == sz&&decide (0<sz)&&zce ks e
def zbb(st:St)(hp:List Site):List Site->Prop
 | []=>True
 | q::r=>st.site q.1=look hp q.1 []/\zbb st hp r
def zcd:HV->St->Nat->AV × St
 | .av v,st,_=>(v,st)
 | .fr sz es,st,d=>(.own d (st.site d).length 0 es.length,st.alloc d ⟨sz,es.map .p⟩)
 | .bx sz e us,st,d=>(.tup (.ptr d (st.site d).length 0 0::us.map .p),st.alloc d ⟨sz,[e]⟩)
def yd2(st:St)(vs:List AV)(hp:List Site)(res:HV)(hp':List Site):Prop :=
 zbb st hp hp/\hp'.map (·.1)=hp.map (·.1)/\(zam (hp.map (·.1)) vs&&hpOk (hp.map (·.1)) hp&&zdi (hp.map (·.1)) res&&hpOk (hp.map (·.1)) hp')=true
def zjl(c:PCall)(st:St)(vs:List AV):Prop :=
 match c.res with
 | .hsp vs0 hp res hp'=>vs=vs0/\AV.undef∉vs/\yd2 st vs hp res hp'
 | _=>vs.mapM (toPV st FUEL)=some c.args
def zey(c:PCall)(st:St)(d:Nat)(vs:List AV):Option (AV × St) :=
 match c.res with
 | .hsp _ hp res hp'=>some (zcd res ⟨st.sl,hp'++st.hp⟩ d)
 | _=>match c.tn with
  | none=>zex c st d (vs.flatMap (deps st FUEL))
  | some (i,sz,es')=>zfz c i sz es' st vs
noncomputable def zcc(orc:Option PCall)(st:St)(d:Nat)(f:FuncId)(vs:List AV):Option (AV × St) :=
 match orc with
 | some c=>@ite _ (f=c.f/\zjl c st vs) (Classical.propDecidable _) (zey c st d vs) none
 | none=>none
noncomputable def eff(orc:Option PCall)(st:St)(d:Nat):IOp->Option (AV × St)
 | .mv x=>some (st.ev x,st)
 | .pick c a b=>match st.ev c with
  | .p (.bool true)=>some (st.ev a,st)
  | .p (.bool false)=>some (st.ev b,st)
  | _=>none
 | .alloc sz zero=>if zero.sz=sz/\0<sz then some (.ptr d (st.site d).length 0 0,st.alloc d ⟨sz,[zero]⟩)else none
 | .box sz x=>if (st.ev x).sz=sz/\0<sz then some (.ptr d (st.site d).length 0 0,st.alloc d ⟨sz,[st.ev x]⟩)else none
 | .build zero parts=>match zcy zero (parts.map fun(o,s,x)=>(o,s,st.ev x))with
  | some cs=>some (mkAgg cs,st)
  | none=>none
 | .bslice sz zero n parts=>if zero.sz=sz/\0<sz/\n*sz<=16777216 then
   match zcz (List.replicate n zero.pur) sz (parts.map fun(i,x)=>(i,(st.ev x).pur))with
   | some es=>some (.own d (st.site d).length 0 n,st.alloc d ⟨sz,es⟩)
   | none=>none
  else none
 | .load sz ag x=>match st.ev x with
  | .ptr s g ix off=>match st.obj s g with
   | some o=>match o.es[ix]? with
    | some e=>if off=0/\sz=o.sz then some (e,st)else match e.seg off sz ag with
     | some v=>some (v,st)
     | none=>none
    | none=>none
   | none=>none
  | .cp v vsz off=>if off=0/\sz=vsz then some (.p v,st)else match v.seg off sz ag with
   | some v=>some (.p v,st)
   | none=>none
  | _=>none
 | .store sz a x=>match st.ev a with
  | .ptr s g ix off=>match st.obj s g with
   | some o=>match o.es[ix]? with
    | some e=>if (st.ev x).sz=sz/\0<sz then
      if off=0/\sz=o.sz then some (.undef,st.setObj s g ⟨o.sz,o.es.set ix (st.ev x)⟩)
      else match e.setSeg off (st.ev x)with
       | some e'=>some (.undef,st.setObj s g ⟨o.sz,o.es.set ix e'⟩)
       | none=>none
     else none
    | none=>none
   | none=>none
  | _=>none
 | .nilck x=>match st.ev x with
  | .ptr s g ix off=>match st.obj s g with
   | some _=>some (.ptr s g ix off,st)
   | none=>none
  | .p (.fn f caps)=>some (.p (.fn f caps),st)
  | .fn f caps=>some (.fn f caps,st)
  | .p (.ref v)=>some (.p (.ref v),st)
  | .cp v vsz off=>some (.cp v vsz off,st)
  | _=>none
 | .ibin op x y=>match ibin op (st.ev x) (st.ev y)with
  | some v=>some (.p v,st)
  | none=>none
 | .bbin op x y=>match bbin op (st.ev x) (st.ev y)with
  | some v=>some (.p v,st)
  | none=>none
 | .abin ks op x y=>match abin ks op (st.ev x) (st.ev y)with
  | some v=>some (.p v,st)
  | none=>none
 | .not x=>match st.ev x with
  | .p (.bool b)=>some (.p (.bool (!b)),st)
  | _=>none
 | .neg x=>match st.ev x with
  | .p (.int k n)=>some (.p (.int k (k.wrap (0 - n))),st)
  | _=>none
 | .ixor x=>match st.ev x with
  | .p (.int k n)=>match zjb .xor k (if k.signed then -1 else k.max) n with
   | some v=>some (.p v,st)
   | none=>none
  | _=>none
 | .conv k x=>match st.ev x with
  | .p (.int _ n)=>some (.p (.int k (k.wrap n)),st)
  | _=>none
 | .mkfn f caps=>if (caps.map st.ev).all AV.one then some (.fn f (caps.map st.ev),st)else none
 | .mkbm f x=>match st.ev x with
  | .p v=>some (.p (.bm f v),st)
  | _=>none
 | .mkslice sz zero l c=>match ziq (st.ev l),ziq (st.ev c)with
  | some n,some m=>if n<=m/\m<=LIM/\zero.sz=sz/\0<sz then some (.own d (st.site d).length 0 n,st.alloc d ⟨sz,List.replicate n zero.pur0⟩)else none
  | _,_=>none
 | .slice sz x lo hi=>match zdk st lo 0,st.ev x with
  | some l,.p (.sl es)=>match zdk st hi es.length with
   | some h=>if l<=h/\h<=es.length/\es.all (fun e=>e.sz == sz)=true/\0<sz then some (.p (.sl ((es.drop l).take (h - l))),st)else none
   | none=>none
  | some l,.own s g off len=>match zdk st hi len with
   | some h=>match st.obj s g with
    | some o=>if l<=h/\h<=len/\off+len<=o.es.length/\o.sz=sz then some (.own s g (off+l) (h - l),st)else none
    | none=>none
   | none=>none
  | some l,.nil=>match zdk st hi 0 with
   | some h=>if l=0/\h=0 then some (.nil,st)else none
   | none=>none
  | _,_=>none
 | .faddr off x=>match st.ev x with
  | .ptr s g ix o=>match st.obj s g with
   | some _=>some (.ptr s g ix (o+off),st)
   | none=>none
  | .cp v vsz o=>some (.cp v vsz (o+off),st)
  | _=>none
 | .field off sz ag x=>match (st.ev x).acells with
  | some cs=>match segL cs off sz ag with
   | some v=>some (v,st)
   | none=>none
  | none=>none
 | .iaddr sz x i=>match ziq (st.ev i),st.ev x with
  | some n,.p (.sl es)=>match es[n]? with
   | some e=>if e.sz=sz/\0<sz then some (.cp e sz 0,st)else none
   | none=>none
  | some n,.own s g off len=>match st.obj s g with
   | some o=>if n<len/\off+len<=o.es.length/\o.sz=sz then some (.ptr s g (off+n) 0,st)else none
   | none=>none
  | _,_=>none
 | .iaddrA m sz x i=>match ziq (st.ev i),st.ev x with
  | some n,.ptr s g ix o=>match st.obj s g with
   | some _=>if n<m then some (.ptr s g ix (o+n*sz),st)else none
   | none=>none
  | some n,.cp v vsz o=>if n<m then some (.cp v vsz (o+n*sz),st)else none
  | _,_=>none
 | .idx m sz ag x i=>match ziq (st.ev i)with
  | some n=>if n<m then match (st.ev x).acells with
    | some cs=>match segL cs (n*sz) sz ag with
     | some v=>some (v,st)
     | none=>none
    | none=>none
   else none
  | none=>none
 | .extract x i=>match st.ev x with
  | .tup vs=>match vs[i]? with
   | some v=>some (v,st)
   | none=>none
  | .p (.tup vs)=>match vs[i]? with
   | some v=>some (.p v,st)
   | none=>none
  | _=>none
 | .len x=>match st.ev x with
  | .p (.sl es)=>some (.p (.int .i64 es.length),st)
  | .nil=>some (.p (.int .i64 0),st)
  | .own _ _ _ len=>some (.p (.int .i64 len),st)
  | _=>none
 | .append sz a x=>match st.elems (st.ev x)with
  | some xs=>if (xs.map AV.pur).all (fun v=>v.sz == sz)=true/\0<sz then match st.ev a with
   | .nil=>if xs.length<=LIM then some (.own d (st.site d).length 0 xs.length,st.alloc d ⟨sz,xs.map AV.pur⟩)else none
   | .own s g off len=>match st.obj s g with
    | some o=>if off=0/\len=o.es.length/\o.sz=sz/\len+xs.length<=LIM then
      let st1:=killAll st [(s,g)]
      some (.own d (st1.site d).length 0 (len+xs.length),st1.alloc d ⟨sz,o.es++xs.map AV.pur⟩)
     else none
    | none=>none
   | _=>none
   else none
  | none=>none
 | .min xs=>match zgj false (xs.map st.ev)with
  | some v=>some (.p v,st)
  | none=>none
 | .max xs=>match zgj true (xs.map st.ev)with
  | some v=>some (.p v,st)
  | none=>none
 | .call f args=>zcc orc st d f (args.map st.ev)
 | .callv x args=>match st.ev x with
  | .p (.fn f caps)=>zcc orc st d f (args.map st.ev++caps.map .p)
  | .fn f caps=>zcc orc st d f (args.map st.ev++caps)
  | .p (.bm f v)=>zcc orc st d f (.p v::args.map st.ev)
  | _=>none
 | .isnil neg x=>match st.ev x with
  | .nil=>some (.p (.bool (!neg)),st)
  | .p .nl=>some (.p (.bool (!neg)),st)
  | .p .sle=>some (.p (.bool neg),st)
  | .p (.sl (_::_))=>some (.p (.bool neg),st)
  | .own s g _ len=>match st.obj s g with
   | some _=>if 0<len then some (.p (.bool neg),st)else none
   | none=>none
  | _=>none
 | .cap x=>match st.ev x with
  | .nil=>some (.p (.int .i64 0),st)
  | _=>none
 | .clear sz zero x=>match st.ev x with
  | .nil=>some (.tup [],st)
  | .own s g off len=>match st.obj s g with
   | some o=>if off+len<=o.es.length/\o.sz=sz/\zero.sz=sz then some (.tup [],st.setObj s g ⟨o.sz,o.es.take off++List.replicate len zero.pur++o.es.drop (off+len)⟩)else none
   | none=>none
  | _=>none
 | .appendz sz zero a x=>match st.ev a,ziq (st.ev x)with
  | .nil,some n=>if 0<n/\n<=LIM/\zero.sz=sz/\0<sz then some (.own d (st.site d).length 0 n,st.alloc d ⟨sz,List.replicate n zero.pur⟩)else none
  | _,_=>none
 | .sidx x i=>match st.ev x,ziq (st.ev i)with
  | .p (.str s),some n=>match s[n]? with
   | some b=>some (.p (.int .u8 b.toNat),st)
   | none=>none
  | _,_=>none
 | .mlook qs zero x k=>match st.ev x,st.ev k with
  | .p (.mp _ ks vs),.p (.agg kc)=>if zcl qs kc=true/\ks.all (zek qs)=true then some (match zbu kc ks vs with|some v=>.p v|none=>zero,st)else none
  | _,_=>none
 | .mlookc qs zero x k=>match st.ev x,st.ev k with
  | .p (.mp _ ks vs),.p (.agg kc)=>if zcl qs kc=true/\ks.all (zek qs)=true then some (match zbu kc ks vs with|some v=>.tup [.p v,.p (.bool true)]|none=>.tup [zero,.p (.bool false)],st)else none
  | _,_=>none
 | .raw _=>none
 | .bad=>none
mutual
inductive PRep (M:Nat->Option Obj):PV->Value->Prop
 | bool (b:Bool):PRep M (.bool b) (.bool b)
 | int (k:IntKind) (n:Int):PRep M (.int k n) (.int k n)
 | str (s:ByteArray):PRep M (.str s) (.string s)
 | nilfn:PRep M .nilfn .nilFunc
 | any (x:Value):x.oneCell'=true->PRep M .any x
 | nl (cap:Nat):PRep M .nl (.slice none 0 cap)
 | sle (a:Addr) (cap:Nat):PRep M .sle (.slice (some a) 0 cap)
 | mapv (r:Nat):PRep M (.mapv r) (.map (some r))
 | itv (r:Nat):PRep M (.itv r) (.pointer (some ⟨r,0,none⟩))
 | mp (r:Nat) (ks vs:List PV) (es:Array MapEntry) (clock:Nat):M r=some (.map es clock)->PReps M ks (es.toList.map (·.key))->PReps M vs (es.toList.map (·.val))->(es.toList.map (·.key)).Nodup ->
   (∀ e∈es.toList,e.born<clock)->(es.toList.map (·.born)).Nodup->PRep M (.mp r ks vs) (.map (some r))
 | sl0 (a:Option Addr) (cap:Nat):PRep M (.sl []) (.slice a 0 cap)
 | sl (es:List PV) (b o cap:Nat) (cur:Array Value) (T:TypeId) (fr:Nat × Nat) (sz:Nat) (vals:List Value) :
   M b=some (.cells cur T fr)->0<sz->(∀ e∈es,e.sz=sz)->(∀ c∈es.flatMap PV.cells,c.one=true)->PReps M (es.flatMap PV.cells) vals ->
   (∀ i v,vals[i]?=some v->cur[o+i]?=some v)->es.length<=cap->es.length<=maxLen->PRep M (.sl es) (.slice (some ⟨b,o,none⟩) es.length cap)
 | agg (cs:List PV) (vals:List Value):(∀ c∈cs,c.one=true)->PReps M cs vals->PRep M (.agg cs) (.agg vals.toArray)
 | fn (f:FuncId) (caps:List PV) (vals:List Value):PReps M caps vals->PRep M (.fn f caps) (.func (.func f) #[] vals.toArray)
 | bm (f:FuncId) (v:PV) (x:Value):PRep M v x->PRep M (.bm f v) (.func (.func f) #[x] #[])
 | ref (v:PV) (b o:Nat) (cur:Array Value) (T:TypeId) (fr:Nat × Nat) (vals:List Value) :
   M b=some (.cells cur T fr)->0<v.sz->(∀ c∈v.cells,c.one=true)->PReps M v.cells vals->(∀ i x,vals[i]?=some x->cur[o+i]?=some x) ->
   PRep M (.ref v) (.pointer (some ⟨b,o,none⟩))
 | tup (vs:List PV) (vals:List Value):PReps M vs vals->PRep M (.tup vs) (.tuple vals.toArray)
inductive PReps (M:Nat->Option Obj):List PV->List Value->Prop
 | nil:PReps M [] []
 | cons (v:PV) (x:Value) (vs:List PV) (xs:List Value):PRep M v x->PReps M vs xs->PReps M (v::vs) (x::xs)
end
structure Cz where
 M:Nat->Option Obj
 B:Nat->Nat->Option Nat
 cap:Nat->Nat->Nat
mutual
inductive ARep (Z:Cz) (st:St):AV->Value->Prop
 | p (v:PV) (x:Value):PRep Z.M v x->ARep Z st (.p v) x
 | nil:ARep Z st .nil (.slice none 0 0)
 | own0 (s g:Nat) (o:AObj):st.obj s g=some o->Z.B s g=none->ARep Z st (.own s g 0 0) (.slice none 0 0)
 | own (s g off len:Nat) (o:AObj) (b:Nat) (ad:Addr) (c:Nat):st.obj s g=some o->Z.B s g=some b->(off=0->ad=⟨b,0,none⟩/\c=Z.cap s g) ->
   (0<len->ad=⟨b,off*o.sz,none⟩)->off+len<=o.es.length->len<=c->ARep Z st (.own s g off len) (.slice (some ad) len c)
 | ownD (s g off len:Nat) (ad:Option Addr) (c:Nat):g<(st.site s).length->st.obj s g=none->ARep Z st (.own s g off len) (.slice ad len c)
 | ptr (s g ix off:Nat) (o:AObj) (b:Nat):st.obj s g=some o->Z.B s g=some b->ARep Z st (.ptr s g ix off) (.pointer (some ⟨b,ix*o.sz+off,none⟩))
 | ptrD (s g ix off:Nat) (ad:Option Addr):g<(st.site s).length->st.obj s g=none->ARep Z st (.ptr s g ix off) (.pointer ad)
 | cp (v:PV) (vsz off b o:Nat) (cur:Array Value) (T:TypeId) (fr:Nat × Nat) (vals:List Value) :
   Z.M b=some (.cells cur T fr)->0<vsz->v.sz=vsz->(∀ c∈v.cells,c.one=true)->PReps Z.M v.cells vals->(∀ i x,vals[i]?=some x->cur[o+i]?=some x) ->
   ARep Z st (.cp v vsz off) (.pointer (some ⟨b,o+off,none⟩))
 | agg (cs:List AV) (vals:List Value):(∀ c∈cs,c.one=true)->AReps Z st cs vals->ARep Z st (.agg cs) (.agg vals.toArray)
 | fn (f:FuncId) (caps:List AV) (vals:List Value):AReps Z st caps vals->ARep Z st (.fn f caps) (.func (.func f) #[] vals.toArray)
 | tup (vs:List AV) (vals:List Value):AReps Z st vs vals->ARep Z st (.tup vs) (.tuple vals.toArray)
 | skip:ARep Z st .skip Go.undef
 | undef (x:Value):ARep Z st .undef x
inductive AReps (Z:Cz) (st:St):List AV->List Value->Prop
 | nil:AReps Z st [] []
 | cons (v:AV) (x:Value) (vs:List AV) (xs:List Value):ARep Z st v x->AReps Z st vs xs->AReps Z st (v::vs) (x::xs)
end
structure ORep (Z:Cz) (st:St) (w:World) (s g:Nat) (o:AObj):Prop where
 pos:0<o.sz
 els:∀ e∈o.es,e.sz=o.sz
 one:∀ c∈o.es.flatMap AV.cells,c.one=true
 non:Z.B s g=none->o.es=[]
 blk:∀ b,Z.B s g=some b->∃ (cur:Array Value) (T:TypeId) (vals:List Value),w.heap[b]?=some (.cells cur T (0,0))/\AReps Z st (o.es.flatMap AV.cells) vals /\
  (∀ (i:Nat) (v:Value),vals[i]?=some v->cur[i]?=some v)/\cur.size=Z.cap s g*o.sz/\o.es.length<=Z.cap s g/\Z.cap s g<=maxLen
structure Ctx where
 w0:World
 M0:Nat->Option Obj
 X0:Nat->Prop
 N:Nat
structure Keep (w0 w:World) (X:Nat->Prop):Prop where
 os:w.os=w0.os
 tape:w.tape=w0.tape
 output:w.output=w0.output
 drawn:w0.drawn<=w.drawn
 size:w0.heap.size<=w.heap.size
 blk:∀ b,b<w0.heap.size->¬ X b->w.heap[b]?=w0.heap[b]?
structure HRep (K:Ctx) (Z:Cz) (st:St) (w:World):Prop where
 objs:∀ s g o,st.obj s g=some o->ORep Z st w s g o
 inj:∀ s g s' g' o o' b,st.obj s g=some o->st.obj s' g'=some o'->Z.B s g=some b->Z.B s' g'=some b->s=s'/\g=g'
 mem:∀ b o,Z.M b=some o->w.heap[b]?=some o
 sep:∀ s g o b,st.obj s g=some o->Z.B s g=some b->Z.M b=none
 own:∀ s g o b,st.obj s g=some o->Z.B s g=some b->K.X0 b\/K.w0.heap.size<=b
 m0:∀ b o,K.M0 b=some o->Z.M b=some o
 prov:∀ b o,Z.M b=some o->K.M0 b=some o\/K.X0 b\/K.w0.heap.size<=b
 keep:Keep K.w0 w K.X0
structure StRep (K:Ctx) (Z:Cz) (st:St) (w:World) (a:Act):Prop where
 slots:∀ t,ARep Z st (st.get t) (a.tmps.getD t Go.undef)
 defers:a.defers=[]
 size:a.tmps.size=K.N
 heap:HRep K Z st w
structure ZLe (Z:Cz) (st:St) (Z':Cz) (st':St):Prop where
 M:∀ b o,Z.M b=some o->Z'.M b=some o
 len:∀ s,(st.site s).length<=(st'.site s).length
 dead:∀ s g,g<(st.site s).length->st.obj s g=none->st'.obj s g=none
 live:∀ s g o,st.obj s g=some o->st'.obj s g=none\/∃ o',st'.obj s g=some o'/\o'.sz=o.sz/\o'.es.length=o.es.length/\Z'.B s g=Z.B s g/\Z'.cap s g=Z.cap s g
theorem zby{st:St}{s g:Nat}{o:AObj}(h:st.obj s g=some o):g<(st.site s).length:=by
 unfold St.obj at h;rcases yg1 g (st.site s).length with h'|h'
 ·omega
 ·grind
mutual
theorem PRep.mono{M M':Nat->Option Obj}(hM:∀ b o,M b=some o->M' b=some o):∀ {v:PV} {x:Value},PRep M v x->PRep M' v x
 | _,_,.bool b=>.bool b
 | _,_,.int k n=>.int k n
 | _,_,.str s=>.str s
 | _,_,.nilfn=>.nilfn
 | _,_,.any x h=>.any x h
 | _,_,.nl c=>.nl c
 | _,_,.sle a c=>.sle a c
 | _,_,.mapv r=>.mapv r
 | _,_,.itv r=>.itv r
 | _,_,.mp r ks vs es clock h0 h1 h2 h3 h4 h5=>.mp r ks vs es clock (hM _ _ h0) (PReps.mono hM h1) (PReps.mono hM h2) h3 h4 h5
 | _,_,.sl0 a c=>.sl0 a c
 | _,_,.sl es b o cap cur T fr sz vals h0 h1 h2 h3 h4 h5 h6 h7=>.sl es b o cap cur T fr sz vals (hM _ _ h0) h1 h2 h3 (PReps.mono hM h4) h5 h6 h7
 | _,_,.agg cs vals h1 h2=>.agg cs vals h1 (PReps.mono hM h2)
 | _,_,.fn f caps vals h=>.fn f caps vals (PReps.mono hM h)
 | _,_,.bm f v x h=>.bm f v x (PRep.mono hM h)
 | _,_,.ref v b o cur T fr vals h0 h1 h2 h3 h4=>.ref v b o cur T fr vals (hM _ _ h0) h1 h2 (PReps.mono hM h3) h4
 | _,_,.tup vs vals h=>.tup vs vals (PReps.mono hM h)
theorem PReps.mono{M M':Nat->Option Obj}(hM:∀ b o,M b=some o->M' b=some o):∀ {v:List PV} {x:List Value},PReps M v x->PReps M' v x
 | _,_,.nil=>.nil
 | _,_,.cons v x vs xs h hs=>.cons v x vs xs (PRep.mono hM h) (PReps.mono hM hs)
end
mutual
theorem ARep.mono{Z Z':Cz}{st st':St}(h:ZLe Z st Z' st'):∀ {v:AV} {x:Value},ARep Z st v x->ARep Z' st' v x
 | _,_,.p v x hp=>.p v x (PRep.mono h.M hp)
 | _,_,.nil=>.nil
 | _,_,.own0 s g o ho hb=>by
  rcases h.live s g o ho with hd|⟨o',ho',h1,h2,h3,h4⟩
  ·exact .ownD s g 0 0 none 0 (yfo (zby ho) (h.len s)) hd
  ·exact .own0 s g o' ho' (h3.trans hb)
 | _,_,.own s g off len o b ad c ho hb h1 h2 h3 h4=>by
  rcases h.live s g o ho with hd|⟨o',ho',e1,e2,e3,e4⟩
  ·exact .ownD s g off len _ _ (yfo (zby ho) (h.len s)) hd
  ·exact .own s g off len o' b ad c ho' (e3.trans hb) (by rw[e4];exact h1) (by rw[e1];exact h2) (by rw[e2];exact h3) h4
 | _,_,.ownD s g off len ad c hg hd=>.ownD s g off len ad c (yfo hg (h.len s)) (h.dead s g hg hd)
 | _,_,.ptr s g ix off o b ho hb=>by
  rcases h.live s g o ho with hd|⟨o',ho',e1,e2,e3,e4⟩
  ·exact .ptrD s g ix off _ (yfo (zby ho) (h.len s)) hd
  ·rw[<- e1];exact .ptr s g ix off o' b ho' (e3.trans hb)
 | _,_,.ptrD s g ix off ad hg hd=>.ptrD s g ix off ad (yfo hg (h.len s)) (h.dead s g hg hd)
 | _,_,.cp v vsz off b o cur T fr vals h0 h1 h2 h3 h4 h5=>.cp v vsz off b o cur T fr vals (h.M _ _ h0) h1 h2 h3 (PReps.mono h.M h4) h5
 | _,_,.agg cs vals h1 h2=>.agg cs vals h1 (AReps.mono h h2)
 | _,_,.fn f caps vals h1=>.fn f caps vals (AReps.mono h h1)
 | _,_,.tup vs vals h1=>.tup vs vals (AReps.mono h h1)
 | _,_,.skip=>.skip
 | _,_,.undef x=>.undef x
theorem AReps.mono{Z Z':Cz}{st st':St}(h:ZLe Z st Z' st'):∀ {v:List AV} {x:List Value},AReps Z st v x->AReps Z' st' v x
 | _,_,.nil=>.nil
 | _,_,.cons v x vs xs h1 hs=>.cons v x vs xs (ARep.mono h h1) (AReps.mono h hs)
end
theorem ZLe.refl(Z:Cz)(st:St):ZLe Z st Z st :=
 ⟨fun _ _ h=>h,fun _=>yf8 _,fun _ _ _ h=>h,fun _ _ o h=>.inr ⟨o,h,rfl,rfl,rfl,rfl⟩⟩
theorem ZLe.trans{Z Z' Z'':Cz}{st st' st'':St}(h:ZLe Z st Z' st')(k:ZLe Z' st' Z'' st''):ZLe Z st Z'' st'':=by
 refine⟨fun b o e=>k.M b o (h.M b o e),fun s=>yf7 (h.len s) (k.len s),fun s g hg hd=>k.dead s g (yfo hg (h.len s)) (h.dead s g hg hd),fun s g o ho=>?_⟩;rcases h.live s g o ho with hd|⟨o',ho',e1,e2,e3,e4⟩
 ·exact .inl (k.dead s g (yfo (zby ho) (h.len s)) hd)
 ·rcases k.live s g o' ho' with hd|⟨o'',ho'',f1,f2,f3,f4⟩
  ·grind
  ·grind
theorem PReps.length{M:Nat->Option Obj}:∀ {vs:List PV} {xs:List Value},PReps M vs xs->xs.length=vs.length
 | _,_,.nil=>rfl
 | _,_,.cons _ _ _ _ _ h=>by simp[PReps.length h]
theorem PReps.append{M:Nat->Option Obj}:∀ {vs us:List PV} {xs ys:List Value},PReps M vs xs->PReps M us ys->PReps M (vs++us) (xs++ys)
 | _,_,_,_,.nil,h=>h
 | _,_,_,_,.cons _ _ _ _ h hs,k=>.cons _ _ _ _ h (PReps.append hs k)
theorem PReps.drop{M:Nat->Option Obj}:∀ (n:Nat) {vs:List PV} {xs:List Value},PReps M vs xs->PReps M (vs.drop n) (xs.drop n)
 | 0,_,_,h=>by simpa using h
 | n+1,_,_,.nil=>by simpa using PReps.nil
 | n+1,_,_,.cons _ _ _ _ _ hs=>by simpa using PReps.drop n hs
theorem PReps.take{M:Nat->Option Obj}:∀ (n:Nat) {vs:List PV} {xs:List Value},PReps M vs xs->PReps M (vs.take n) (xs.take n)
 | 0,_,_,_=>by simpa using PReps.nil
 | n+1,_,_,.nil=>by simpa using PReps.nil
 | n+1,_,_,.cons _ _ _ _ h hs=>by simpa using PReps.cons _ _ _ _ h (PReps.take n hs)
theorem PReps.get{M:Nat->Option Obj}:∀ {vs:List PV} {xs:List Value} (i:Nat) (v:PV),PReps M vs xs->vs[i]?=some v->∃ x,xs[i]?=some x/\PRep M v x
 | _,_,i,v,.nil,h=>by simp at h
 | _,_,0,v,.cons u x _ _ h _,e=>by simp at e;subst e;exact⟨x,by simp,h⟩
 | _,_,i+1,v,.cons _ _ _ _ _ hs,e=>by simp at e;simpa using PReps.get i v hs e
theorem AReps.length{Z:Cz}{st:St}:∀ {vs:List AV} {xs:List Value},AReps Z st vs xs->xs.length=vs.length
 | _,_,.nil=>rfl
 | _,_,.cons _ _ _ _ _ h=>by simp[AReps.length h]
theorem AReps.append{Z:Cz}{st:St}:∀ {vs us:List AV} {xs ys:List Value},AReps Z st vs xs->AReps Z st us ys->AReps Z st (vs++us) (xs++ys)
 | _,_,_,_,.nil,h=>h
 | _,_,_,_,.cons _ _ _ _ h hs,k=>.cons _ _ _ _ h (AReps.append hs k)
theorem AReps.drop{Z:Cz}{st:St}:∀ (n:Nat) {vs:List AV} {xs:List Value},AReps Z st vs xs->AReps Z st (vs.drop n) (xs.drop n)
 | 0,_,_,h=>by simpa using h
 | n+1,_,_,.nil=>by simpa using AReps.nil
 | n+1,_,_,.cons _ _ _ _ _ hs=>by simpa using AReps.drop n hs
theorem AReps.take{Z:Cz}{st:St}:∀ (n:Nat) {vs:List AV} {xs:List Value},AReps Z st vs xs->AReps Z st (vs.take n) (xs.take n)
 | 0,_,_,_=>by simpa using AReps.nil
 | n+1,_,_,.nil=>by simpa using AReps.nil
 | n+1,_,_,.cons _ _ _ _ h hs=>by simpa using AReps.cons _ _ _ _ h (AReps.take n hs)
theorem AReps.get{Z:Cz}{st:St}:∀ {vs:List AV} {xs:List Value} (i:Nat) (v:AV),AReps Z st vs xs->vs[i]?=some v->∃ x,xs[i]?=some x/\ARep Z st v x
 | _,_,i,v,.nil,h=>by simp at h
 | _,_,0,v,.cons u x _ _ h _,e=>by simp at e;subst e;exact⟨x,by simp,h⟩
 | _,_,i+1,v,.cons _ _ _ _ _ hs,e=>by simp at e;simpa using AReps.get i v hs e
theorem AReps.of_p{Z:Cz}{st:St}:∀ {vs:List PV} {xs:List Value},PReps Z.M vs xs->AReps Z st (vs.map .p) xs
 | _,_,.nil=>.nil
 | _,_,.cons v x _ _ h hs=>.cons _ _ _ _ (.p v x h) (AReps.of_p hs)
theorem AReps.to_p{Z:Cz}{st:St}:∀ {vs:List PV} {xs:List Value},AReps Z st (vs.map .p) xs->PReps Z.M vs xs
 | [],_,.nil=>.nil
 | v::vs,_,.cons _ _ _ _ (.p _ _ h) hs=>.cons _ _ _ _ h (AReps.to_p hs)
theorem zif:∀ {cs:List AV} {ps:List PV},allP cs=some ps->cs=ps.map .p
 | [],ps,h=>by simp[allP]at h;subst h;rfl
 | .p v::r,ps,h=>by
  simp[allP]at h;split at h
  ·rename_i vs hv;cases h;rw[zif hv];rfl
  ·grind
theorem zlz(cs:List AV):(mkAgg cs).cells=cs:=by
 unfold mkAgg;split
 ·rename_i ps h;rw[zif h];rfl
 ·rfl
theorem zsw(cs:List AV):(mkAgg cs).sz=if cs.length<=1 then 0 else cs.length:=by
 unfold mkAgg;split
 ·rename_i ps h;rw[zif h];simp[AV.sz,PV.sz]
 ·rfl
theorem ARep.mkAgg{Z:Cz}{st:St}{cs:List AV}{vals:List Value}(h1:∀ c∈cs,c.one=true)(h:AReps Z st cs vals):ARep Z st (mkAgg cs) (.agg vals.toArray):=by
 unfold Ab.mkAgg;split
 ·rename_i ps hp;have:=zif hp;subst this;exact .p _ _ (.agg _ _ (fun c hc=>by have:=h1 (.p c) (List.mem_map.2 ⟨c,hc,rfl⟩);simpa[AV.one]using this) (AReps.to_p h))
 ·exact .agg _ _ h1 h
theorem zgv{x:Value}(h:x.oneCell'=true):x.cells = #[x]:=by cases x<;>first|rfl|simp[Value.oneCell']at h
theorem PRep.one_val{M:Nat->Option Obj}{v:PV}{x:Value}(h:PRep M v x)(hv:v.one=true):x.oneCell'=true:=by cases h<;>first|rfl|assumption|simp at hv
theorem ARep.one_val{Z:Cz}{st:St}{v:AV}{x:Value}(h:ARep Z st v x)(hv:v.one=true):x.oneCell'=true:=by cases h<;>first|rfl|(rename_i hp;exact hp.one_val hv)|simp[AV.one]at hv
theorem PV.cells_one{v:PV}(h:v.one=true):v.cells=[v]/\v.sz=1:=by cases v<;>first|exact⟨rfl,rfl⟩|simp[PV.one]at h
theorem AV.cells_one{v:AV}(h:v.one=true):v.cells=[v]/\v.sz=1:=by
 cases v<;>first|exact⟨rfl,rfl⟩|simp[AV.one]at h|skip
 rename_i v;cases v<;>first|exact⟨rfl,rfl⟩|simp[PV.one]at h
theorem PV.sz_pos{v:PV}(h:0<v.sz):v.one=true\/∃ cs,v=.agg cs/\1<cs.length:=by
 cases v<;>first|exact .inl rfl|(simp[PV.sz]at h;done)|skip
 rename_i cs;refine .inr ⟨cs,rfl,?_⟩;simp[PV.sz]at h
 grind
theorem AV.sz_pos{v:AV}(h:0<v.sz):v.one=true\/(∃ cs,v=.agg cs/\1<cs.length)\/∃ cs,v=.p (.agg cs)/\1<cs.length:=by
 cases v<;>first|exact .inl rfl|(simp[AV.sz]at h;done)|skip
 case p v =>
  rcases PV.sz_pos (v:=v) h with h1|⟨cs,rfl,h1⟩
  ·exact .inl h1
  ·grind
 case agg cs =>
  refine .inr (.inl ⟨cs,rfl,?_⟩);simp[AV.sz]at h
  grind
theorem PRep.cells{M:Nat->Option Obj}{v:PV}{x:Value}(h:PRep M v x)(hs:0<v.sz) :
  PReps M v.cells x.cells.toList/\v.cells.length=v.sz/\(∀ c∈v.cells,c.one=true):=by
 rcases PV.sz_pos hs with h1|⟨cs,rfl,h1⟩
 ·obtain⟨e1,e2⟩:=PV.cells_one h1;rw[zgv (h.one_val h1),e1,e2];exact⟨.cons _ _ _ _ h .nil,rfl,by simpa using h1⟩
 ·cases h with
  | agg _ vals k1 k2=>exact⟨by simpa[PV.cells,Value.cells]using k2,by simp[PV.cells,PV.sz];omega,by simpa[PV.cells]using k1⟩
theorem ARep.cells{Z:Cz}{st:St}{v:AV}{x:Value}(h:ARep Z st v x)(hs:0<v.sz) :
  AReps Z st v.cells x.cells.toList/\v.cells.length=v.sz/\(∀ c∈v.cells,c.one=true):=by
 rcases AV.sz_pos hs with h1|⟨cs,rfl,h1⟩|⟨cs,rfl,h1⟩
 ·obtain⟨e1,e2⟩:=AV.cells_one h1;rw[zgv (h.one_val h1),e1,e2];exact⟨.cons _ _ _ _ h .nil,rfl,by simpa using h1⟩
 ·cases h with
  | agg _ vals k1 k2=>exact⟨by simpa[AV.cells,Value.cells]using k2,by simp[AV.cells,AV.sz];omega,by simpa[AV.cells]using k1⟩
 ·cases h with
  | p _ _ hp =>
   obtain⟨a1,a2,a3⟩:=hp.cells (by simpa[AV.sz]using hs);refine⟨by simpa[AV.cells,PV.cells]using AReps.of_p a1,by simpa[AV.cells,AV.sz,PV.cells]using a2,?_⟩;intro c hc;simp[AV.cells]at hc;obtain⟨d,hd,rfl⟩:=hc;exact a3 d hd
theorem PRep.of_cells{M:Nat->Option Obj}{v:PV}{xs:List Value}(hs:0<v.sz)(h1:∀ c∈v.cells,c.one=true)(h:PReps M v.cells xs) :
  (v.one=true->∃ x,xs=[x]/\PRep M v x)/\(v.one=false->PRep M v (.agg xs.toArray)):=by
 refine⟨fun ho=>?_,fun ho=>?_⟩
 ·rw[(PV.cells_one ho).1]at h;cases h with
  | cons _ x _ _ hx hn=>cases hn;exact⟨x,rfl,hx⟩
 ·rcases PV.sz_pos hs with h2|⟨cs,rfl,h2⟩
  ·rw[ho]at h2;cases h2
  ·exact .agg _ _ h1 h
theorem ARep.of_cells{Z:Cz}{st:St}{v:AV}{xs:List Value}(hs:0<v.sz)(h1:∀ c∈v.cells,c.one=true)(h:AReps Z st v.cells xs) :
  (v.one=true->∃ x,xs=[x]/\ARep Z st v x)/\(v.one=false->ARep Z st v (.agg xs.toArray)):=by
 refine⟨fun ho=>?_,fun ho=>?_⟩
 ·rw[(AV.cells_one ho).1]at h;cases h with
  | cons _ x _ _ hx hn=>cases hn;exact⟨x,rfl,hx⟩
 ·rcases AV.sz_pos hs with h2|⟨cs,rfl,h2⟩|⟨cs,rfl,h2⟩
  ·grind
  ·exact .agg _ _ h1 h
  ·refine .p _ _ (.agg _ _ (fun c hc=>?_) (AReps.to_p h));have:=h1 (.p c) (List.mem_map.2 ⟨c,hc,rfl⟩);simpa[AV.one]using this
def Cz.setB(Z:Cz)(s g:Nat)(b:Option Nat)(c:Nat):Cz :=
 {Z with B:=fun s' g'=>if s'=s/\g'=g then b else Z.B s' g',cap:=fun s' g'=>if s'=s/\g'=g then c else Z.cap s' g' }
theorem za8(st:St)(d:Nat)(o:AObj)(s:Nat):(st.alloc d o).site s=if s=d then st.site d++[some o]else st.site s:=by
 unfold St.alloc St.site;simp[look];by_cases h:d=s
 ·grind
 ·grind
theorem zan(st:St)(d:Nat)(o:AObj)(s g:Nat):(st.alloc d o).obj s g=if s=d/\g=(st.site d).length then some o else st.obj s g:=by
 unfold St.obj;rw[za8];by_cases h:s=d
 ·grind
 ·grind
def St.kill(st:St)(s g:Nat):St:={ st with hp:=(s,zbe (st.site s) g)::st.hp }
theorem zej(st:St)(s g:Nat)(r:List (Nat × Nat)):killAll st ((s,g)::r)=killAll (st.kill s g) r:=rfl
theorem zga(st:St)(s g t:Nat):(st.kill s g).site t=if t=s then(st.site s).set g none else st.site t:=by
 unfold St.kill St.site;simp[look,zbe];by_cases h:s=t
 ·grind
 ·grind
theorem zeg(st:St)(s g s' g':Nat):(st.kill s g).obj s' g'=if s'=s/\g'=g then none else st.obj s' g':=by
 unfold St.obj;rw[zga];by_cases h:s'=s
 ·grind
 ·grind
theorem zpl(st:St)(s g t:Nat):((st.kill s g).site t).length=(st.site t).length:=by
 rw[zga];split
 ·grind
 ·rfl
theorem zbj(st:St)(s g t:Nat)(o:AObj):(st.setObj s g o).site t=if t=s then(st.site s).set g (some o)else st.site t:=by
 unfold St.setObj St.site;simp[look];by_cases h:s=t
 ·grind
 ·grind
theorem za9(st:St)(s g s' g':Nat)(o:AObj)(hg:g<(st.site s).length):(st.setObj s g o).obj s' g'=if s'=s/\g'=g then some o else st.obj s' g':=by
 unfold St.obj;rw[zbj];by_cases h:s'=s
 ·grind
 ·grind
theorem zl3(st:St)(s g t:Nat)(o:AObj):((st.setObj s g o).site t).length=(st.site t).length:=by
 rw[zbj];split
 ·grind
 ·rfl
theorem ZLe.alloc(Z:Cz)(st:St)(d:Nat)(o:AObj)(b:Option Nat)(c:Nat):ZLe Z st (Z.setB d (st.site d).length b c) (st.alloc d o):=by
 refine⟨fun _ _ h=>h,fun s=>?_,fun s g hg hd=>?_,fun s g o' ho=>.inr ⟨o',?_,rfl,rfl,?_,?_⟩⟩
 ·rw[za8];split
  ·grind
  ·simp
 ·rw[zan,yf0 (by rintro⟨rfl,rfl⟩;omega)];exact hd
 ·rw[zan,yf0 (by rintro⟨rfl,rfl⟩;have:=zby ho;omega)];exact ho
 ·simp only[Cz.setB];rw[yf0 (by rintro⟨rfl,rfl⟩;have:=zby ho;omega)]
 ·simp only[Cz.setB];rw[yf0 (by rintro⟨rfl,rfl⟩;have:=zby ho;omega)]
theorem ZLe.kill(Z:Cz)(st:St)(s g:Nat):ZLe Z st Z (st.kill s g):=by
 refine⟨fun _ _ h=>h,fun t=>by rw[zpl];exact yf8 _,fun s' g' hg hd=>?_,fun s' g' o' ho=>?_⟩
 ·rw[zeg];split
  ·rfl
  ·omega
 ·by_cases h:s'=s/\g'=g
  ·left;rw[zeg,yf1 h]
  ·right;exact⟨o',by rw[zeg,yf0 h];exact ho,rfl,rfl,rfl,rfl⟩
theorem ZLe.setObj(Z:Cz)(st:St)(s g:Nat)(o o':AObj)(ho:st.obj s g=some o)(h1:o'.sz=o.sz)(h2:o'.es.length=o.es.length):ZLe Z st Z (st.setObj s g o'):=by
 have hg:=zby ho;refine⟨fun _ _ h=>h,fun t=>by rw[zl3];exact yf8 _,fun s' g' hg' hd=>?_,fun s' g' o1 ho1=>.inr ?_⟩
 ·rw[za9 _ _ _ _ _ _ hg,yf0 (by rintro⟨rfl,rfl⟩;rw[ho]at hd;cases hd)];exact hd
 ·by_cases h:s'=s/\g'=g
  ·obtain⟨rfl,rfl⟩:=h;rw[ho]at ho1;cases ho1;exact⟨o',by rw[za9 _ _ _ _ _ _ hg,yf1 ⟨rfl,rfl⟩],h1,h2,rfl,rfl⟩
  ·exact⟨o1,by rw[za9 _ _ _ _ _ _ hg,yf0 h];exact ho1,rfl,rfl,rfl,rfl⟩
theorem ORep.later{Z Z':Cz}{st st':St}{w w':World}{s g:Nat}{o:AObj}(h:ORep Z st w s g o)(hz:ZLe Z st Z' st')(hB:Z'.B s g=Z.B s g)(hc:Z'.cap s g=Z.cap s g)
  (hw:∀ b,Z.B s g=some b->w'.heap[b]?=w.heap[b]?):ORep Z' st' w' s g o:=by
 refine⟨h.pos,h.els,h.one,fun hn=>h.non (by rw[<- hB];exact hn),fun b hb=>?_⟩;rw[hB]at hb;obtain⟨cur,T,vals,h1,h2,h3,h4,h5,h6⟩:=h.blk b hb;exact⟨cur,T,vals,by rw[hw b hb];exact h1,AReps.mono hz h2,h3,by rw[hc];exact h4,by rw[hc];exact h5,by rw[hc];exact h6⟩
theorem Keep.alloc{w0 w:World}{X:Nat->Prop}(h:Keep w0 w X)(o:Obj):Keep w0 (w.alloc o) X :=
 ⟨h.os,h.tape,h.output,h.drawn,by simp;have:=h.size;omega,fun b hb hx=>by rw[heap_alloc_old w o b (yfo hb h.size)];exact h.blk b hb hx⟩
theorem Keep.drew{w0 w:World}{X:Nat->Prop}(h:Keep w0 w X):Keep w0 w.drew X:=⟨h.os,h.tape,h.output,yf7 h.drawn (Nat.le_succ _),h.size,h.blk⟩
theorem Keep.setRow{w0 w:World}{X:Nat->Prop}(h:Keep w0 w X)(g:Nat)(cs:Array Value)(hg:X g\/w0.heap.size<=g):Keep w0 (w.setRow g cs) X:=by refine⟨h.os,h.tape,h.output,h.drawn,by rw[setRow_size];exact h.size,fun b hb hx=>?_⟩;rw[setRow_other w g b cs (by rintro rfl;rcases hg with hg|hg;exact hx hg;omega)];exact h.blk b hb hx
theorem HRep.drew{K:Ctx}{Z:Cz}{st:St}{w:World}(h:HRep K Z st w):HRep K Z st w.drew :=
 ⟨fun s g o ho=>(h.objs s g o ho).later (ZLe.refl Z st) rfl rfl (fun _ _=>rfl),h.inj,h.mem,h.sep,h.own,h.m0,h.prov,h.keep.drew⟩
theorem HRep.lt{K:Ctx}{Z:Cz}{st:St}{w:World}(h:HRep K Z st w){s g b:Nat}{o:AObj}(ho:st.obj s g=some o)(hb:Z.B s g=some b):b<w.heap.size:=by
 obtain⟨cur,T,vals,h1,_⟩:=(h.objs s g o ho).blk b hb
 grind
theorem HRep.ltM{K:Ctx}{Z:Cz}{st:St}{w:World}(h:HRep K Z st w){b:Nat}{o:Obj}(hb:Z.M b=some o):b<w.heap.size :=
 (ygh.1 (h.mem b o hb)).1
theorem HRep.alloc{K:Ctx}{Z:Cz}{st:St}{w:World}(h:HRep K Z st w)(d:Nat)(o:AObj)(cur:Array Value)(T:TypeId)(c:Nat)(vals:List Value)
  (h1:0<o.sz) (h2:∀ e∈o.es,e.sz=o.sz) (h3:∀ x∈o.es.flatMap AV.cells,x.one=true) (h4:AReps Z st (o.es.flatMap AV.cells) vals)
  (h5:∀ (i:Nat) (v:Value),vals[i]?=some v->cur[i]?=some v) (h6:cur.size=c*o.sz) (h7:o.es.length<=c) (h8:c<=maxLen) :
  HRep K (Z.setB d (st.site d).length (some w.heap.size) c) (st.alloc d o) (w.alloc (.cells cur T)):=by
 have hz:=ZLe.alloc Z st d o (some w.heap.size) c;have hn:∀ {s g:Nat} {o':AObj},st.obj s g=some o'->¬ (s=d/\g=(st.site d).length):=by rintro s g o' ho ⟨rfl,rfl⟩;have:=zby ho;omega
 have hB:∀ {s g:Nat},¬ (s=d/\g=(st.site d).length)->(Z.setB d (st.site d).length (some w.heap.size) c).B s g=Z.B s g:=fun hx=>by simp only[Cz.setB];rw[yf0 hx]
 have hC:∀ {s g:Nat},¬ (s=d/\g=(st.site d).length)->(Z.setB d (st.site d).length (some w.heap.size) c).cap s g=Z.cap s g:=fun hx=>by simp only[Cz.setB];rw[yf0 hx]
 refine⟨fun s g o' ho=>?_,fun s g s' g' o' o'' b ho ho' hb hb'=>?_,fun b o' hb=>?_,fun s g o' b ho hb=>?_,fun s g o' b ho hb=>?_,h.m0,h.prov,h.keep.alloc _⟩
 ·rw[zan]at ho;by_cases hx:s=d/\g=(st.site d).length
  ·rw[yf1 hx]at ho;cases ho;obtain⟨rfl,rfl⟩:=hx;refine⟨h1,h2,h3,fun hnn=>(by simp[Cz.setB]at hnn),fun b hb=>?_⟩;simp only[Cz.setB,and_self,yf2,yf3]at hb ⊢;subst hb;exact⟨cur,T,vals,heap_alloc_new w _,AReps.mono hz h4,h5,h6,h7,h8⟩
  ·rw[yf0 hx]at ho;exact(h.objs s g o' ho).later hz (hB hx) (hC hx) (fun b hb=>heap_alloc_old w _ b (h.lt ho hb))
 ·rw[zan]at ho ho';by_cases hx:s=d/\g=(st.site d).length<;>by_cases hx':s'=d/\g'=(st.site d).length
  ·exact⟨hx.1.trans hx'.1.symm,hx.2.trans hx'.2.symm⟩
  ·rw[yf0 hx']at ho';rw[hB hx']at hb';obtain⟨rfl,rfl⟩:=hx;simp only[Cz.setB,and_self,yf2,yf3]at hb;have:=h.lt ho' hb';omega
  ·rw[yf0 hx]at ho;rw[hB hx]at hb;obtain⟨rfl,rfl⟩:=hx';simp only[Cz.setB,and_self,yf2,yf3]at hb';have:=h.lt ho hb;omega
  ·rw[yf0 hx]at ho;rw[yf0 hx']at ho';rw[hB hx]at hb;rw[hB hx']at hb';exact h.inj s g s' g' o' o'' b ho ho' hb hb'
 ·rw[heap_alloc_old w _ b (h.ltM hb)];exact h.mem b o' hb
 ·rw[zan]at ho;by_cases hx:s=d/\g=(st.site d).length
  ·obtain⟨rfl,rfl⟩:=hx;simp only[Cz.setB,and_self,yf2,yf3]at hb;subst hb;cases hm:Z.M w.heap.size with
   | none=>exact hm
   | some x=>have:=h.ltM hm;omega
  ·rw[yf0 hx]at ho;rw[hB hx]at hb;exact h.sep s g o' b ho hb
 ·rw[zan]at ho;by_cases hx:s=d/\g=(st.site d).length
  ·obtain⟨rfl,rfl⟩:=hx;simp only[Cz.setB,and_self,yf2,yf3]at hb;subst hb;exact .inr h.keep.size
  ·rw[yf0 hx]at ho;rw[hB hx]at hb;exact h.own s g o' b ho hb
theorem HRep.allocNil{K:Ctx}{Z:Cz}{st:St}{w:World}(h:HRep K Z st w)(d sz:Nat)(h1:0<sz) :
  HRep K (Z.setB d (st.site d).length none 0) (st.alloc d ⟨sz,[]⟩) w:=by
 have hz:=ZLe.alloc Z st d ⟨sz,[]⟩ none 0;have hB:∀ {s g:Nat},¬ (s=d/\g=(st.site d).length)->(Z.setB d (st.site d).length none 0).B s g=Z.B s g:=fun hx=>by simp only[Cz.setB];rw[yf0 hx]
 have hC:∀ {s g:Nat},¬ (s=d/\g=(st.site d).length)->(Z.setB d (st.site d).length none 0).cap s g=Z.cap s g:=fun hx=>by simp only[Cz.setB];rw[yf0 hx]
 have old:∀ {s g:Nat} {o':AObj} {b:Nat},(st.alloc d ⟨sz,[]⟩).obj s g=some o'->(Z.setB d (st.site d).length none 0).B s g=some b->st.obj s g=some o'/\Z.B s g=some b:=by
  intro s g o' b ho hb;rw[zan]at ho;by_cases hx:s=d/\g=(st.site d).length
  ·obtain⟨rfl,rfl⟩:=hx;simp[Cz.setB]at hb
  ·rw[yf0 hx]at ho;rw[hB hx]at hb;exact⟨ho,hb⟩
 refine⟨fun s g o' ho=>?_,fun s g s' g' o' o'' b ho ho' hb hb'=>?_,h.mem,fun s g o' b ho hb=>?_,fun s g o' b ho hb=>?_,h.m0,h.prov,h.keep⟩
 ·rw[zan]at ho;by_cases hx:s=d/\g=(st.site d).length
  ·rw[yf1 hx]at ho;cases ho;obtain⟨rfl,rfl⟩:=hx;exact⟨h1,by simp,by simp,fun _=>rfl,fun b hb=>by simp[Cz.setB]at hb⟩
  ·rw[yf0 hx]at ho;exact(h.objs s g o' ho).later hz (hB hx) (hC hx) (fun _ _=>rfl)
 ·obtain⟨a1,a2⟩:=old ho hb;obtain⟨b1,b2⟩:=old ho' hb';exact h.inj s g s' g' o' o'' b a1 b1 a2 b2
 ·obtain⟨a1,a2⟩:=old ho hb;exact h.sep s g o' b a1 a2
 ·obtain⟨a1,a2⟩:=old ho hb;exact h.own s g o' b a1 a2
theorem HRep.kill{K:Ctx}{Z:Cz}{st:St}{w:World}(h:HRep K Z st w)(s g:Nat):HRep K Z (st.kill s g) w:=by
 have old:∀ {s' g':Nat} {o':AObj},(st.kill s g).obj s' g'=some o'->st.obj s' g'=some o':=by
  intro s' g' o' ho;rw[zeg]at ho;split at ho
  ·grind
  ·omega
 exact⟨fun s' g' o' ho=>(h.objs s' g' o' (old ho)).later (ZLe.kill Z st s g) rfl rfl (fun _ _=>rfl),
  fun _ _ _ _ _ _ b a1 a2=>h.inj _ _ _ _ _ _ b (old a1) (old a2),h.mem,fun _ _ _ b a1=>h.sep _ _ _ b (old a1),fun _ _ _ b a1=>h.own _ _ _ b (old a1),h.m0,h.prov,h.keep⟩
theorem HRep.setObj{K:Ctx}{Z:Cz}{st:St}{w:World}(h:HRep K Z st w){s g:Nat}{o:AObj}(ho:st.obj s g=some o){b:Nat}(hb:Z.B s g=some b)
  (es:List AV) (cur:Array Value) (vals:List Value) (h2:∀ e∈es,e.sz=o.sz) (h3:∀ x∈es.flatMap AV.cells,x.one=true) (hl:es.length=o.es.length)
  (h4:AReps Z st (es.flatMap AV.cells) vals) (h5:∀ (i:Nat) (v:Value),vals[i]?=some v->cur[i]?=some v) (h6:cur.size=Z.cap s g*o.sz) :
  HRep K Z (st.setObj s g ⟨o.sz,es⟩) (w.setRow b cur):=by
 have hg:=zby ho;have hz:=ZLe.setObj Z st s g o ⟨o.sz,es⟩ ho rfl hl;obtain⟨old,T,ov,k1,k2,k3,k4,k5,k6⟩:=(h.objs s g o ho).blk b hb;have ob:∀ {s' g':Nat} {o':AObj},(st.setObj s g ⟨o.sz,es⟩).obj s' g'=some o'->∃ o1,st.obj s' g'=some o1:=by
  intro s' g' o' hx;rw[za9 _ _ _ _ _ _ hg]at hx;split at hx
  ·rename_i he;obtain⟨rfl,rfl⟩:=he;exact⟨o,ho⟩
  ·exact⟨o',hx⟩
 refine⟨fun s' g' o' ho'=>?_,fun s' g' s'' g'' o' o'' b' a1 a2 a3 a4=>?_,fun b' o' hb'=>?_,fun s' g' o' b' a1 a2=>?_,fun s' g' o' b' a1 a2=>?_,h.m0,h.prov,h.keep.setRow _ _ (h.own s g o b ho hb)⟩
 ·rw[za9 _ _ _ _ _ _ hg]at ho';by_cases he:s'=s/\g'=g
  ·rw[if_pos he]at ho';cases ho';obtain⟨rfl,rfl⟩:=he;refine⟨(h.objs s' g' o ho).pos,h2,h3,fun hn=>(by rw[hb]at hn;cases hn),fun b' hb'=>?_⟩;rw[hb]at hb';cases hb';exact⟨cur,T,vals,setRow_heap w b old cur T (0,0) k1,AReps.mono hz h4,h5,h6,by simpa[hl]using k5,k6⟩
  ·rw[yf0 he]at ho';refine(h.objs s' g' o' ho').later hz rfl rfl (fun b' hb'=>setRow_other w b b' cur ?_);rintro rfl;exact he (h.inj s' g' s g o' o b' ho' ho hb' hb)
 ·obtain⟨o1,x1⟩:=ob a1;obtain⟨o2,x2⟩:=ob a2;exact h.inj s' g' s'' g'' o1 o2 b' x1 x2 a3 a4
 ·rw[setRow_other w b b' cur (by rintro rfl;rw[h.sep s g o b' ho hb]at hb';cases hb')];exact h.mem b' o' hb'
 ·obtain⟨o1,x1⟩:=ob a1;exact h.sep s' g' o1 b' x1 a2
 ·obtain⟨o1,x1⟩:=ob a1;exact h.own s' g' o1 b' x1 a2
theorem HRep.move{K:Ctx}{Z:Cz}{st:St}{w:World}(h:HRep K Z st w){s g:Nat}{o:AObj}(ho:st.obj s g=some o){b:Nat}(hb:Z.B s g=some b)(d:Nat)
  (es:List AV) (cur:Array Value) (vals:List Value) (h2:∀ e∈es,e.sz=o.sz) (h3:∀ x∈es.flatMap AV.cells,x.one=true) (hl:es.length<=Z.cap s g)
  (h4:AReps Z st (es.flatMap AV.cells) vals) (h5:∀ (i:Nat) (v:Value),vals[i]?=some v->cur[i]?=some v) (h6:cur.size=Z.cap s g*o.sz) :
  HRep K (Z.setB d ((st.kill s g).site d).length (some b) (Z.cap s g)) ((st.kill s g).alloc d ⟨o.sz,es⟩) (w.setRow b cur) /\
  ZLe Z st (Z.setB d ((st.kill s g).site d).length (some b) (Z.cap s g)) ((st.kill s g).alloc d ⟨o.sz,es⟩):=by
 have hk:=ZLe.kill Z st s g;have hz:ZLe Z st (Z.setB d ((st.kill s g).site d).length (some b) (Z.cap s g)) ((st.kill s g).alloc d ⟨o.sz,es⟩):=hk.trans (ZLe.alloc Z (st.kill s g) d ⟨o.sz,es⟩ (some b) (Z.cap s g));obtain⟨old,T,ov,k1,k2,k3,k4,k5,k6⟩:=(h.objs s g o ho).blk b hb;generalize hn:((st.kill s g).site d).length=n at *
 have oo:∀ {s' g':Nat} {o':AObj},((st.kill s g).alloc d ⟨o.sz,es⟩).obj s' g'=some o'->¬ (s'=d/\g'=n)->st.obj s' g'=some o'/\¬ (s'=s/\g'=g):=by
  intro s' g' o' hx hne;rw[zan,hn,yf0 hne,zeg]at hx;split at hx
  ·cases hx
  ·rename_i h1;exact⟨hx,h1⟩
 have hB:∀ {s' g':Nat},¬ (s'=d/\g'=n)->(Z.setB d n (some b) (Z.cap s g)).B s' g'=Z.B s' g':=fun hx=>by simp only[Cz.setB];rw[yf0 hx]
 have hC:∀ {s' g':Nat},¬ (s'=d/\g'=n)->(Z.setB d n (some b) (Z.cap s g)).cap s' g'=Z.cap s' g':=fun hx=>by simp only[Cz.setB];rw[yf0 hx]
 refine⟨⟨fun s' g' o' ho'=>?_,fun s' g' s'' g'' o' o'' b' a1 a2 a3 a4=>?_,fun b' o' hb'=>?_,fun s' g' o' b' a1 a2=>?_,fun s' g' o' b' a1 a2=>?_,h.m0,h.prov,h.keep.setRow _ _ (h.own s g o b ho hb)⟩,hz⟩
 ·by_cases he:s'=d/\g'=n
  ·rw[zan,hn,yf1 he]at ho';cases ho';obtain⟨rfl,rfl⟩:=he;refine⟨(h.objs s g o ho).pos,h2,h3,fun hnn=>(by simp[Cz.setB]at hnn),fun b' hb'=>?_⟩;simp only[Cz.setB,and_self,yf2,yf3]at hb' ⊢;subst hb';exact⟨cur,T,vals,setRow_heap w b old cur T (0,0) k1,AReps.mono hz h4,h5,h6,hl,k6⟩
  ·obtain⟨ho1,hne⟩:=oo ho' he;refine(h.objs s' g' o' ho1).later hz (hB he) (hC he) (fun b' hb'=>setRow_other w b b' cur ?_);rintro rfl;exact hne (h.inj s' g' s g o' o b' ho1 ho hb' hb)
 ·by_cases hx:s'=d/\g'=n<;>by_cases hx':s''=d/\g''=n
  ·exact⟨hx.1.trans hx'.1.symm,hx.2.trans hx'.2.symm⟩
  ·obtain⟨y1,y2⟩:=oo a2 hx';rw[hB hx']at a4;obtain⟨rfl,rfl⟩:=hx;simp only[Cz.setB,and_self,yf2,yf3]at a3;subst a3;exact absurd (h.inj s'' g'' s g o'' o b y1 ho a4 hb) y2
  ·obtain⟨y1,y2⟩:=oo a1 hx;rw[hB hx]at a3;obtain⟨rfl,rfl⟩:=hx';simp only[Cz.setB,and_self,yf2,yf3]at a4;subst a4;exact absurd (h.inj s' g' s g o' o b y1 ho a3 hb) y2
  ·obtain⟨y1,_⟩:=oo a1 hx;obtain⟨z1,_⟩:=oo a2 hx';rw[hB hx]at a3;rw[hB hx']at a4;exact h.inj s' g' s'' g'' o' o'' b' y1 z1 a3 a4
 ·rw[setRow_other w b b' cur (by rintro rfl;have:=h.sep s g o b' ho hb;simp only[Cz.setB]at hb';rw[this]at hb';cases hb')];exact h.mem b' o' hb'
 ·by_cases he:s'=d/\g'=n
  ·obtain⟨rfl,rfl⟩:=he;simp only[Cz.setB,and_self,yf2,yf3]at a2;subst a2;exact h.sep s g o b ho hb
  ·rw[hB he]at a2;exact h.sep s' g' o' b' (oo a1 he).1 a2
 ·by_cases he:s'=d/\g'=n
  ·obtain⟨rfl,rfl⟩:=he;simp only[Cz.setB,and_self,yf2,yf3]at a2;subst a2;exact h.own s g o b ho hb
  ·rw[hB he]at a2;exact h.own s' g' o' b' (oo a1 he).1 a2
theorem AV.cells_len{v:AV}(h:0<v.sz):v.cells.length=v.sz:=by
 rcases AV.sz_pos h with h1|⟨cs,rfl,h1⟩|⟨cs,rfl,h1⟩
 ·rw[(AV.cells_one h1).1,(AV.cells_one h1).2];rfl
 ·simp[AV.cells,AV.sz];omega
 ·simp[AV.cells,AV.sz,PV.sz];omega
theorem PV.cells_len{v:PV}(h:0<v.sz):v.cells.length=v.sz:=by
 rcases PV.sz_pos h with h1|⟨cs,rfl,h1⟩
 ·rw[(PV.cells_one h1).1,(PV.cells_one h1).2];rfl
 ·simp[PV.cells,PV.sz];omega
theorem AV.cells_p(v:PV):(AV.p v).cells=v.cells.map .p:=by cases v<;>rfl
theorem AV.sz_p(v:PV):(AV.p v).sz=v.sz:=rfl
theorem zal(es:List PV):(es.map AV.p).flatMap AV.cells=(es.flatMap PV.cells).map .p:=by
 induction es with
 | nil=>rfl
 | cons e es ih=>simp only[yfq,yft,ygx,ih,AV.cells_p]
theorem zdd{α β : Type}(f : α -> List β)(sz:Nat):∀ (es:List α),(∀ e∈es,(f e).length=sz)->(es.flatMap f).length=es.length*sz
 | [],_=>by simp
 | e::es,h=>by rw[yft,ygi,h e (by simp),zdd f sz es (fun x hx=>h x (by simp[hx])),yg2,ygt];omega
theorem zh7{α β : Type}(f : α -> List β)(sz:Nat):∀ (es:List α) (ix:Nat) (e : α),(∀ e∈es,(f e).length=sz)->es[ix]?=some e->((es.flatMap f).drop (ix*sz)).take sz=f e
 | [],_,_,_,h=>by simp at h
 | x::es,0,e,h,he=>by
  simp at he;subst he;rw[yir,yhx,yft,yj8 (by rw[h x (by simp)];exact yf8 _),yfw (by rw[h x (by simp)];exact yf8 _)]
 | x::es,ix+1,e,h,he=>by have hx:=h x (by simp);rw[List.flatMap_cons,Nat.succ_mul,List.drop_append,List.drop_of_length_le (by omega),List.nil_append,hx,Nat.add_sub_cancel];exact zh7 f sz es ix e (fun y hy=>h y (by simp[hy])) (by simpa using he)
theorem zrz{α β : Type}(f : α -> List β)(sz:Nat)(es:List α)(ix:Nat)(e : α)(h:∀ e∈es,(f e).length=sz)(he:es[ix]?=some e):ix*sz+sz<=(es.flatMap f).length:=by rw[zdd f sz es h,<- Nat.succ_mul];exact yg7 _ (yh6.1 he).1
theorem zop{α β : Type}(f : α -> List β)(sz:Nat):∀ (es:List α) (ix:Nat) (e : α),(∀ e∈es,(f e).length=sz)->ix<es.length ->
  (es.set ix e).flatMap f=(es.flatMap f).take (ix*sz)++f e++(es.flatMap f).drop (ix*sz+sz)
 | [],_,_,_,h=>by simp at h
 | x::es,0,e,h,_=>by
  have hx:=h x (by simp);simp only[List.set_cons_zero,yft,yir,List.take_zero,yh7,ygm];rw[yis (by omega),yhf (by omega),yh7]
 | x::es,ix+1,e,h,hl=>by
  have hx:=h x (by simp);have ih:=zop f sz es ix e (fun y hy=>h y (by simp[hy])) (by simpa using hl);simp only[List.set_cons_succ,List.flatMap_cons,ih,Nat.succ_mul]
  rw[List.take_append,yfw (l:=f x) (by omega),List.drop_append,yhf (l:=f x) (by omega),hx,yib,
   show ix*sz+sz+sz - sz=ix*sz+sz from by omega]
  simp[yhr]
theorem zw8{cur:Array Value}{vals:List Value}(h:∀ (i:Nat) (v:Value),vals[i]?=some v->cur[i]?=some v):∃ rest,cur.toList=vals++rest:=by
 refine⟨cur.toList.drop vals.length,?_⟩;apply yj9;intro i;by_cases hi:i<vals.length
 ·rw[List.getElem?_append_left hi,List.getElem?_eq_getElem hi];have:=h i _ (List.getElem?_eq_getElem hi);simpa using this
 ·rw[yhg (by omega),yic]
  congr 1;omega
theorem zms{cur:List Value}{vals rest:List Value}(h:cur=vals++rest):∀ (i:Nat) (v:Value),vals[i]?=some v->cur.toArray[i]?=some v:=by intro i v hv;subst h;have hl:=(yh6.1 hv).1;simp only[List.getElem?_toArray];rw[yid hl];exact hv
section
variable {P:Program} {K:Ctx}
theorem zck(b o j:Nat):(⟨b,o,none⟩:Addr).add j=⟨b,o+j,none⟩:=by unfold Addr.add;split<;>simp_all
def tsz(P:Program)(t:TypeId):Nat:=P.cellsOf t
def zr8:TypeDesc->Bool
 | .struct _ | .array _ _=>true
 | _=>false
def tagg(P:Program)(t:TypeId):Bool :=
 match P.underlying t with
 | some d=>zr8 d
 | _=>false
def tok(P:Program)(t:TypeId)(sz:Nat)(ag:Bool):Bool :=
 (P.info? t).isSome&&(P.underlying t).isSome&&tsz P t == sz&&tagg P t == ag&&(if ag then 1<sz else sz == 1)
theorem zhy{t:TypeId}{sz:Nat}{ag:Bool}(h:tok P t sz ag=true) :
  ∃ i d,P.info? t=some i/\i.size=sz/\P.underlying t=some d/\zr8 d=ag/\(ag=true->1<sz)/\(ag=false->sz=1):=by
 simp only[tok,Bool.and_eq_true,beq_iff_eq]at h;obtain⟨⟨⟨⟨h1,h2⟩,h3⟩,h4⟩,h5⟩:=h;obtain⟨i,hi⟩:=Option.isSome_iff_exists.1 h1;obtain⟨d,hd⟩:=Option.isSome_iff_exists.1 h2;refine⟨i,d,hi,by simpa[tsz,Program.cellsOf,hi]using h3,hd,?_,?_,?_⟩
 ·rw[<- h4];unfold tagg;rw[hd]
 ·rintro rfl;simpa using h5
 ·rintro rfl;simpa using h5
theorem zgb{t:TypeId}{d:TypeDesc}(w:World)(hd:P.underlying t=some d):(isAgg t).run P w=.ok (zr8 d) w:=by unfold isAgg;rw[yfx,run_underlying hd w];cases d<;>rfl
theorem zho{Z:Cz}{st:St}{t:TypeId}{sz:Nat}{ag:Bool}{w:World}{b o k:Nat}{cur:Array Value}{T:TypeId}{fr:Nat × Nat}{cs:List AV}{vals:List Value}
  (ht:tok P t sz ag=true) (hm:w.heap[b]?=some (.cells cur T fr)) (hr:AReps Z st cs vals) (hv:∀ (i:Nat) (v:Value),vals[i]?=some v->cur[o+i]?=some v) (hl:k+sz<=cs.length) :
  ∃ xs,AReps Z st ((cs.drop k).take sz) xs/\xs.length=sz/\(ag=true->(loadVar t ⟨b,o+k,none⟩).run P w=.ok (.agg xs.toArray) w) /\
   (ag=false->∃ x,xs=[x]/\(loadVar t ⟨b,o+k,none⟩).run P w=.ok x w):=by
 obtain⟨i,d,hi,hs,hd,hag,hy,hn⟩:=zhy ht;have hrl:=hr.length;have hcell:∀ j v,((vals.drop k).take sz)[j]?=some v->w.cell? ((⟨b,o+k,none⟩:Addr).add j)=some v:=by
  intro j v hj;rw[zck,cell_of_row w b _ cur T fr hm];rw[yit]at hj;split at hj
  ·rw[yic]at hj;rw[yhh];exact hv _ _ hj
  ·cases hj
 have hlen:((vals.drop k).take sz).length=sz:=by simp;omega
 refine⟨(vals.drop k).take sz,(hr.drop k).take sz,hlen,fun ha=>?_,fun ha=>?_⟩
 ·have hL:=run_loadCells_list (P:=P) w ⟨b,o+k,none⟩ ((vals.drop k).take sz) hcell;rw[hlen]at hL;subst ha;simp[loadVar,zgb w hd,hag,sizeOf,typeInfo,hi,hs,hL]
 ·subst ha;have h1:=hn rfl;subst h1
  match hx:(vals.drop k).take 1,hlen with
  | [x],_ =>
   refine⟨x,rfl,?_⟩;have hc:=hcell 0 x (by rw[hx];rfl);rw[zck,ygl]at hc;simp[loadVar,zgb w hd,hag,hc]
theorem z00{t:TypeId}{sz:Nat}{w:World}{b o:Nat}{cur:Array Value}{T:TypeId}{x:Value}{i:TypeInfo}(hi:P.info? t=some i)(hs:i.size=sz)(hm:w.heap[b]?=some (.cells cur T (0,0)))
  (hx:x.cells.size=sz) (hl:o+sz<=cur.size) (h1:∀ v∈x.cells.toList,v.oneCell'=true) :
  (storeVar t ⟨b,o,none⟩ x).run P w=.ok () (w.setRow b (cur.toList.take o++x.cells.toList++cur.toList.drop (o+sz)).toArray):=by
 have hst:=run_storeCells_at P b o T x.cells.toList 0 cur w hm (by simp;omega) h1;simp only[ygl,yiu,hx]at hst;simp[storeVar,sizeOf,typeInfo,hi,hs,hx,hst]
def Good(P:Program)(K:Ctx)(Z:Cz)(st:St)(r:Result Next)(v:AV)(st':St):Prop :=
 ∃ n x w' Z',r=.ok n w'/\(n=.value x\/(n=.skip/\x=Go.undef))/\HRep K Z' st' w'/\ARep Z' st' v x/\ZLe Z st Z' st'
theorem zbc{Z:Cz}{st:St}{w:World}{v:AV}{x:Value}(h:HRep K Z st w)(hv:ARep Z st v x):Good P K Z st (.ok (.value x) w) v st :=
 ⟨_,x,w,Z,rfl,.inl rfl,h,hv,ZLe.refl Z st⟩
theorem ARep.inv_int{Z:Cz}{st:St}{k:IntKind}{n:Int}{x:Value}(h:ARep Z st (.p (.int k n)) x):x=.int k n:=by cases h with|p _ _ hp=>cases hp;rfl
theorem ARep.inv_bool{Z:Cz}{st:St}{b:Bool}{x:Value}(h:ARep Z st (.p (.bool b)) x):x=.bool b:=by cases h with|p _ _ hp=>cases hp;rfl
theorem ARep.inv_p{Z:Cz}{st:St}{v:PV}{x:Value}(h:ARep Z st (.p v) x):PRep Z.M v x:=by cases h with|p _ _ hp=>exact hp
theorem zbt{v:AV}{n:Nat}(h:ziq v=some n):∃ k,v=.p (.int k (n:Int)):=by
 unfold ziq at h;split at h
 ·rename_i k m;split at h
  ·cases h;refine⟨k,?_⟩;congr;omega
  ·cases h
 ·cases h
theorem zcu{Z:Cz}{st:St}:∀ {vs:List AV} {xs:List Value},AReps Z st vs xs->(∀ c∈vs,c.one=true)->∀ x∈xs,x.oneCell'=true
 | _,_,.nil,_=>by simp
 | _,_,.cons v x vs xs h hs,h1=>by
  intro y hy;rcases yf4.1 hy with rfl|hy
  ·exact h.one_val (h1 v (by simp))
  ·exact zcu hs (fun c hc=>h1 c (by simp[hc])) y hy
end
end Go.Ab
