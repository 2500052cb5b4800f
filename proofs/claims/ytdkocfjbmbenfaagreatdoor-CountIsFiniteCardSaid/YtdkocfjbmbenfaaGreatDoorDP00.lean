/-
Proofs for the law CountIsFinite, part 0. Conditions: none.
-/
import Derived.Calls
import Derived.Orders
import Derived.Laws.AppendOwn
import Derived.Laws.MakeOwn
set_option maxRecDepth 100000
set_option maxHeartbeats 4000000
set_option linter.all false
namespace Go.Ab
inductive PV where
 | bool (b:Bool)
 | int (k:IntKind) (n:Int)
 | str (s:ByteArray)
 | sl (es:List PV)
 | agg (cs:List PV)
 | fn (f:FuncId) (caps:List PV)
 | ref (v:PV)
 | nilfn
 | tup (vs:List PV)
 | any
 | nl
 | sle
 | mapv (r:Nat)
 | itv (r:Nat)
 | mp (r:Nat) (ks vs:List PV)
 deriving Inhabited
inductive AV where
 | p (v:PV)
 | nil
 | own (s g off len:Nat)
 | ptr (s g ix off:Nat)
 | cp (v:PV) (vsz off:Nat)
 | agg (cs:List AV)
 | fn (f:FuncId) (caps:List AV)
 | tup (vs:List AV)
 | skip
 | undef
 deriving Inhabited
def PV.cells:PV->List PV
 | .agg cs=>cs
 | v=>[v]
def AV.cells:AV->List AV
 | .p (.agg cs)=>cs.map .p
 | .agg cs=>cs
 | v=>[v]
def PV.one:PV->Bool
 | .agg _ | .tup _=>false
 | _=>true
def AV.one:AV->Bool
 | .p v=>v.one
 | .agg _ | .tup _ | .skip | .undef=>false
 | _=>true
def PV.sz:PV->Nat
 | .agg cs=>if cs.length<=1 then 0 else cs.length
 | .tup _=>0
 | _=>1
def AV.sz:AV->Nat
 | .p v=>v.sz
 | .agg cs=>if cs.length<=1 then 0 else cs.length
 | .tup _ | .skip | .undef=>0
 | _=>1
def allP:List AV->Option (List PV)
 | []=>some []
 | .p v::r=>match allP r with
  | some vs=>some (v::vs)
  | none=>none
 | _::_=>none
def mkAgg (cs:List AV):AV :=
 match allP cs with
 | some ps=>.p (.agg ps)
 | none=>.agg cs
def PV.seg (v:PV) (off sz:Nat) (ag:Bool):Option PV :=
 if ag then (if ((v.cells.drop off).take sz).length=sz/\1<sz then some (.agg ((v.cells.drop off).take sz)) else none)
 else if sz=1 then ((v.cells.drop off).take 1).head? else none
def AV.seg (v:AV) (off sz:Nat) (ag:Bool):Option AV :=
 if ag then (if ((v.cells.drop off).take sz).length=sz/\1<sz then some (mkAgg ((v.cells.drop off).take sz)) else none)
 else if sz=1 then ((v.cells.drop off).take 1).head? else none
def AV.acells:AV->Option (List AV)
 | .p (.agg cs)=>some (cs.map .p)
 | .agg cs=>some cs
 | _=>none
def segL (cs:List AV) (off sz:Nat) (ag:Bool):Option AV :=
 if ag then (if ((cs.drop off).take sz).length=sz/\1<sz then some (mkAgg ((cs.drop off).take sz)) else none)
 else if sz=1 then ((cs.drop off).take 1).head? else none
def AV.setSeg (v:AV) (off:Nat) (x:AV):Option AV :=
 if off+x.cells.length<=v.cells.length/\1<v.cells.length then
  some (mkAgg (v.cells.take off++x.cells++v.cells.drop (off+x.cells.length))) else none
structure AObj where
 sz:Nat
 es:List AV
def look {α : Type} (l:List (Nat × α)) (t:Nat) (d : α) : α :=
 match l with
 | []=>d
 | (k,v)::r=>if k=t then v else look r t d
structure St where
 sl:List (Nat × AV)
 hp:List (Nat × List (Option AObj))
def St.get (st:St) (t:Nat):AV:=look st.sl t .undef
def St.site (st:St) (s:Nat):List (Option AObj):=look st.hp s []
def St.obj (st:St) (s g:Nat):Option AObj:=((st.site s)[g]?).getD none
def St.put (st:St) (d:Option Nat) (v:AV):St :=
 match d with
 | some t=>{ st with sl:=(t,v)::st.sl }
 | none=>st
inductive Opd where
 | t (n:Nat)
 | c (v:AV)
def St.ev (st:St):Opd->AV
 | .t n=>st.get n
 | .c v=>v
def LIM:Nat:=2147483648
def toPV (st:St):Nat->AV->Option PV
 | 0,v=>if v.one then some .any else none
 | n+1,v=>match v with
  | .p v=>some v
  | .nil=>some (.sl [])
  | .own s g off len=>match st.obj s g with
   | some o=>if off+len<=o.es.length then (((o.es.drop off).take len).mapM (toPV st n)).map .sl else none
   | none=>none
  | .ptr s g ix off=>if ix=0/\off=0 then match st.obj s g with
   | some o=>match o.es with
    | [e]=>(toPV st n e).map .ref
    | _=>none
   | none=>none
   else none
  | .cp v _ off=>if off=0 then some (.ref v) else none
  | .agg cs=>(cs.mapM (toPV st n)).map .agg
  | .fn f caps=>(caps.mapM (toPV st n)).map (.fn f)
  | .tup vs=>(vs.mapM (toPV st n)).map .tup
  | .skip | .undef=>none
def deps (st:St):Nat->AV->List (Nat × Nat)
 | 0,_=>[]
 | n+1,v=>match v with
  | .own s g _ _=>(s,g)::(match st.obj s g with
   | some o=>o.es.flatMap (deps st n)
   | none=>[])
  | .ptr s g _ _=>(s,g)::(match st.obj s g with
   | some o=>o.es.flatMap (deps st n)
   | none=>[])
  | .agg cs=>cs.flatMap (deps st n)
  | .fn _ caps=>caps.flatMap (deps st n)
  | .tup vs=>vs.flatMap (deps st n)
  | _=>[]
def FUEL:Nat:=6
def PV.flat1:PV->Bool
 | .bool _ | .int _ _ | .str _ | .nilfn | .any=>true
 | _=>false
def PV.flat:PV->Bool
 | .agg cs=>cs.all PV.flat1
 | v=>v.flat1
inductive IOp where
 | mv (x:Opd)
 | pick (c a b:Opd)
 | alloc (sz:Nat) (zero:AV)
 | box (sz:Nat) (x:Opd)
 | build (zero:List AV) (parts:List (Nat × Nat × Opd))
 | bslice (sz:Nat) (zero:AV) (n:Nat) (parts:List (Nat × Opd))
 | load (sz:Nat) (ag:Bool) (x:Opd)
 | store (sz:Nat) (a v:Opd)
 | nilck (x:Opd)
 | ibin (op:BinOp) (x y:Opd)
 | bbin (op:BinOp) (x y:Opd)
 | abin (ks:List (Option IntKind)) (op:BinOp) (x y:Opd)
 | not (x:Opd)
 | neg (x:Opd)
 | ixor (x:Opd)
 | conv (k:IntKind) (x:Opd)
 | mkfn (f:FuncId) (caps:List Opd)
 | mkslice (sz:Nat) (zero:AV) (len cap:Opd)
 | slice (sz:Nat) (x:Opd) (lo hi:Option Opd)
 | faddr (off:Nat) (x:Opd)
 | field (off sz:Nat) (ag:Bool) (x:Opd)
 | iaddr (sz:Nat) (x i:Opd)
 | iaddrA (n sz:Nat) (x i:Opd)
 | idx (n sz:Nat) (ag:Bool) (x i:Opd)
 | extract (x:Opd) (i:Nat)
 | len (x:Opd)
 | append (sz:Nat) (a x:Opd)
 | min (xs:List Opd)
 | max (xs:List Opd)
 | call (f:FuncId) (args:List Opd)
 | callv (f:Opd) (args:List Opd)
 | isnil (neg:Bool) (x:Opd)
 | cap (x:Opd)
 | clear (sz:Nat) (zero:AV) (x:Opd)
 | copy (sz:Nat) (a x:Opd)
 | appendz (sz:Nat) (zero:AV) (a n:Opd)
 | sidx (x i:Opd)
 | mlook (qs:List IntKind) (zero:AV) (x k:Opd)
 | mlookc (qs:List IntKind) (zero:AV) (x k:Opd)
 | raw (op:Op)
 | bad
structure Ins where
 dst:Option Nat
 op:IOp
 guard:Option (Nat × Bool)
inductive AC where
 | nop
 | reg (ops:List Ins)
 | regD (ops:List Ins) (pre:List (List Nat))
 | seq (a b:AC)
 | cond (c:Opd) (a b:AC)
 | blk (id:Nat) (b:AC)
 | loop (b:AC)
 | scp (b:AC)
 | ext (id:Nat)
 | ret
 | bad
def eqI:List PV->List PV->Bool
 | [],[]=>true
 | .int k a::r,.int k' b::s=>decide (k=k')&&decide (a=b)&&eqI r s
 | _,_=>false
def zbp (kc:List PV):List PV->List PV->Option PV
 | .agg c::ks,v::vs=>if eqI c kc=true then some v else zbp kc ks vs
 | _::ks,_::vs=>zbp kc ks vs
 | _,_=>none
def zcf:List IntKind->List PV->Bool
 | [],[]=>true
 | q::qs,.int k n::r=>decide (k=q)&&(Lit.int k n).wf&&zcf qs r
 | _,_=>false
def zek (qs:List IntKind):PV->Bool
 | .agg c=>zcf qs c
 | _=>false
abbrev Site:=Nat × List (Option AObj)
inductive HV
 | av (v:AV)
 | fr (sz:Nat) (es:List PV)
 | bx (sz:Nat) (e:AV) (us:List PV)
inductive RV where
 | pure (v:PV)
 | fresh (sz:Nat) (es:List PV)
 | same (len:Nat)
 | hsp (vs:List AV) (hp:List Site) (res:HV) (hp':List Site)
def RV.flat:RV->Bool
 | .pure v=>v.flat
 | .fresh _ es=>es.all PV.flat
 | .same _=>true
 | .hsp _ _ _ _=>true
structure PCall where
 f:FuncId
 args:List PV
 res:RV
 tn:Option (Nat × Nat × List PV):=none
def zi7 (op:BinOp) (k:IntKind) (a b:Int):Option PV :=
 match op with
 | .add=>some (.int k (k.wrap (a+b)))
 | .sub=>some (.int k (k.wrap (a - b)))
 | .mul=>some (.int k (k.wrap (a*b)))
 | .quo=>if b=0 then none else some (.int k (k.wrap (a.tdiv b)))
 | .rem=>if b=0 then none else some (.int k (a.tmod b))
 | .and=>some (.int k (k.wrap (BitVec.ofInt k.bits a &&& BitVec.ofInt k.bits b).toNat))
 | .or=>some (.int k (k.wrap (BitVec.ofInt k.bits a ||| BitVec.ofInt k.bits b).toNat))
 | .xor=>some (.int k (k.wrap (BitVec.ofInt k.bits a ^^^ BitVec.ofInt k.bits b).toNat))
 | .andNot=>some (.int k (k.wrap (BitVec.ofInt k.bits a &&& ~~~ BitVec.ofInt k.bits b).toNat))
 | .eql=>some (.bool (a == b))
 | .neq=>some (.bool (a != b))
 | .lss=>some (.bool (a<b))
 | .leq=>some (.bool (a<=b))
 | .gtr=>some (.bool (a>b))
 | .geq=>some (.bool (a ≥ b))
 | _=>none
def zhn (op:BinOp) (k:IntKind) (a b:Int):Option PV :=
 if b<0 then none else match op with
 | .shl=>some (.int k (k.wrap (a*2^Nat.min b.toNat k.bits)))
 | .shr=>some (.int k (a.fdiv (2^Nat.min b.toNat k.bits)))
 | _=>none
def zdk:BinOp->Bool
 | .shl | .shr=>true
 | _=>false
def ibin (op:BinOp) (x y:AV):Option PV :=
 match x,y with
 | .p (.int k a),.p (.int k' b)=>if zdk op then zhn op k a b else if k=k' then zi7 op k a b else none
 | _,_=>none
def bbin (op:BinOp) (x y:AV):Option PV :=
 match x,y with
 | .p (.bool a),.p (.bool b)=>match op with
  | .eql=>some (.bool (a == b))
  | .neq=>some (.bool (!(a == b)))
  | _=>none
 | _,_=>none
def zb9:List (Option IntKind)->List PV->List PV->Option Bool
 | [],[],[]=>some true
 | some k::ks,.int k1 a::r,.int k2 b::s=>if k1=k/\k2=k then (match zb9 ks r s with|some t=>some (a == b&&t)|none=>none) else none
 | none::ks,.bool a::r,.bool b::s=>match zb9 ks r s with|some t=>some ((a == b)&&t)|none=>none
 | _,_,_=>none
def abin (ks:List (Option IntKind)) (op:BinOp) (x y:AV):Option PV :=
 match x,y with
 | .p (.agg xs),.p (.agg ys)=>match zb9 ks xs ys,op with
  | some t,.eql=>some (.bool t)
  | some t,.neq=>some (.bool (!t))
  | _,_=>none
 | _,_=>none
def AV.pur1:AV->AV
 | .nil=>.p (.sl [])
 | v=>v
def AV.pur:AV->AV
 | .nil=>.p (.sl [])
 | .agg cs=>mkAgg (cs.map AV.pur1)
 | v=>v
def St.elems (st:St):AV->Option (List AV)
 | .p (.sl es)=>some (es.map .p)
 | .nil=>some []
 | .p .nl=>some []
 | .p .sle=>some []
 | .own s g off len=>match st.obj s g with
  | some o=>if off+len<=o.es.length then some ((o.es.drop off).take len) else none
  | none=>none
 | _=>none
def zht:AV->Option Nat
 | .p (.int _ n)=>if 0<=n then some n.toNat else none
 | _=>none
def zda (st:St) (o:Option Opd) (n:Nat):Option Nat :=
 match o with
 | some x=>zht (st.ev x)
 | none=>some n
def zcq (cells:List AV):List (Nat × Nat × AV)->Option (List AV)
 | []=>some cells
 | (off,sz,v)::r=>if v.sz=sz/\0<sz/\off+sz<=cells.length then zcq (cells.take off++v.cells++cells.drop (off+sz)) r else none
def zcr (es:List AV) (sz:Nat):List (Nat × AV)->Option (List AV)
 | []=>some es
 | (i,v)::r=>if v.sz=sz/\i<es.length then zcr (es.set i v) sz r else none
def zjv (l:List (Option AObj)) (g:Nat):List (Option AObj):=l.set g none
def killAll (st:St):List (Nat × Nat)->St
 | []=>st
 | (s,g)::r=>killAll { st with hp:=(s,zjv (st.site s) g)::st.hp } r
def St.alloc (st:St) (d:Nat) (o:AObj):St:={ st with hp:=(d,st.site d++[some o])::st.hp }
def St.setObj (st:St) (s g:Nat) (o:AObj):St:={ st with hp:=(s,(st.site s).set g (some o))::st.hp }
def zf7 (mx:Bool):List AV->Option PV
 | .p (.int k a)::r=>r.foldlM (fun acc v=>match acc,v with
  | .int k a,.p (.int k' b)=>if k=k' then some (.int k (if mx then (if b>a then b else a) else (if b<a then b else a))) else none
  | _,_=>none) (.int k a)
 | _=>none
def zev (c:PCall) (st:St) (d:Nat) (ids:List (Nat × Nat)):Option (AV × St) :=
 let st1:=if c.res.flat then st else killAll st ids
 match c.res with
 | .pure v=>some (.p v,st1)
 | .fresh sz es=>if es.all (fun v=>v.sz == sz)=true/\0<sz/\es.length<=LIM then some (.own d (st1.site d).length 0 es.length,st1.alloc d ⟨sz,es.map .p⟩) else none
 | .same _=>none
 | .hsp _ _ _ _=>none
def zi1:Option AV->Option (Nat × Nat × Nat × Bool)
 | some (.own s g off len)=>if off=0 then some (s,g,len,true) else none
 | some (.ptr s g ix off)=>if ix=0/\off=0 then some (s,g,1,false) else none
 | _=>none
def zuv (c:PCall) (es':List PV) (st:St) (ids:List (Nat × Nat)) (s g sz:Nat):St :=
 (if (c.res.flat&&es'.all PV.flat)=true then st else killAll st ids).setObj s g ⟨sz,es'.map .p⟩
def zfp (c:PCall) (i sz:Nat) (es':List PV) (st:St) (vs:List AV):Option (AV × St) :=
 match zi1 vs[i]? with
 | some (s,g,len,sl)=>match st.obj s g with
  | some o =>
   let ids:=(vs.eraseIdx i).flatMap (deps st FUEL)++o.es.flatMap (deps st 5)
   if i<vs.length/\len=o.es.length/\es'.length=len/\o.sz=sz/\es'.all (fun v=>v.sz == sz)=true/\(es'.flatMap PV.cells).all PV.one=true/\ids.contains (s,g)=false then
    let st1:=zuv c es' st ids s g sz
    match c.res with
    | .pure v=>some (.p v,st1)
    | .fresh _ _=>none
    | .same l=>if l<=len/\sl=true then some (.own s g 0 l,st1) else none
    | .hsp _ _ _ _=>none
   else none
  | none=>none
 | none=>none
mutual
def zbx (ks:List Nat):AV->Bool
 | .own s _ _ _=>ks.contains s
 | .ptr s _ _ _=>ks.contains s
 | .agg cs=>zav ks cs
 | .fn _ cs=>zav ks cs
 | .tup cs=>zav ks cs
 | _=>true
def zav (ks:List Nat):List AV->Bool
 | []=>true
 | v::r=>zbx ks v&&zav ks r
end
def zfd (ks:List Nat):Option AObj->Bool
 | none=>true
 | some o=>zav ks o.es
def hpOk (ks:List Nat) (hp:List Site):Bool:=hp.all fun q=>q.2.all (zfd ks)
def zeo (ks:List Nat):HV->Bool
 | .av v=>zbx ks v
 | .fr sz es=>es.all (fun e=>e.sz == sz)&&decide (0<sz)
 | .bx sz e _=>e.sz == sz&&decide (0<sz)&&zbx ks e
def zbb (st:St) (hp:List Site):List Site->Prop
 | []=>True
 | q::r=>st.site q.1=look hp q.1 []/\zbb st hp r
def zdj:HV->St->Nat->AV × St
 | .av v,st,_=>(v,st)
 | .fr sz es,st,d=>(.own d (st.site d).length 0 es.length,st.alloc d ⟨sz,es.map .p⟩)
 | .bx sz e us,st,d=>(.tup (.ptr d (st.site d).length 0 0::us.map .p),st.alloc d ⟨sz,[e]⟩)
def ybm (st:St) (vs:List AV) (hp:List Site) (res:HV) (hp':List Site):Prop :=
 zbb st hp hp/\hp'.map (·.1)=hp.map (·.1)/\(zav (hp.map (·.1)) vs&&hpOk (hp.map (·.1)) hp&&zeo (hp.map (·.1)) res&&hpOk (hp.map (·.1)) hp')=true
def zh4 (c:PCall) (st:St) (vs:List AV):Prop :=
 match c.res with
 | .hsp vs0 hp res hp'=>vs=vs0/\AV.undef∉vs/\ybm st vs hp res hp'
 | _=>vs.mapM (toPV st FUEL)=some c.args
def zea (c:PCall) (st:St) (d:Nat) (vs:List AV):Option (AV × St) :=
 match c.res with
 | .hsp _ hp res hp'=>some (zdj res ⟨st.sl,hp'++st.hp⟩ d)
 | _=>match c.tn with
  | none=>zev c st d (vs.flatMap (deps st FUEL))
  | some (i,sz,es')=>zfp c i sz es' st vs
noncomputable def zcd (orc:Option PCall) (st:St) (d:Nat) (f:FuncId) (vs:List AV):Option (AV × St) :=
 match orc with
 | some c=>@ite _ (f=c.f/\zh4 c st vs) (Classical.propDecidable _) (zea c st d vs) none
 | none=>none
noncomputable def eff (orc:Option PCall) (st:St) (d:Nat):IOp->Option (AV × St)
 | .mv x=>some (st.ev x,st)
 | .pick c a b=>match st.ev c with
  | .p (.bool true)=>some (st.ev a,st)
  | .p (.bool false)=>some (st.ev b,st)
  | _=>none
 | .alloc sz zero=>if zero.sz=sz/\0<sz then some (.ptr d (st.site d).length 0 0,st.alloc d ⟨sz,[zero]⟩) else none
 | .box sz x=>if (st.ev x).sz=sz/\0<sz then some (.ptr d (st.site d).length 0 0,st.alloc d ⟨sz,[st.ev x]⟩) else none
 | .build zero parts=>match zcq zero (parts.map fun (o,s,x)=>(o,s,st.ev x)) with
  | some cs=>some (mkAgg cs,st)
  | none=>none
 | .bslice sz zero n parts=>if zero.sz=sz/\0<sz/\n*sz<=16777216 then
   match zcr (List.replicate n zero.pur) sz (parts.map fun (i,x)=>(i,(st.ev x).pur)) with
   | some es=>some (.own d (st.site d).length 0 n,st.alloc d ⟨sz,es⟩)
   | none=>none
  else none
 | .load sz ag x=>match st.ev x with
  | .ptr s g ix off=>match st.obj s g with
   | some o=>match o.es[ix]? with
    | some e=>if off=0/\sz=o.sz then some (e,st) else match e.seg off sz ag with
     | some v=>some (v,st)
     | none=>none
    | none=>none
   | none=>none
  | .cp v vsz off=>if off=0/\sz=vsz then some (.p v,st) else match v.seg off sz ag with
   | some v=>some (.p v,st)
   | none=>none
  | _=>none
 | .store sz a x=>match st.ev a with
  | .ptr s g ix off=>match st.obj s g with
   | some o=>match o.es[ix]? with
    | some e=>if (st.ev x).sz=sz/\0<sz then
      if off=0/\sz=o.sz then some (.undef,st.setObj s g ⟨o.sz,o.es.set ix (st.ev x)⟩)
      else match e.setSeg off (st.ev x) with
       | some e'=>some (.undef,st.setObj s g ⟨o.sz,o.es.set ix e'⟩)
       | none=>none
     else none
    | none=>none
   | none=>none
  | _=>none
 | .nilck x=>match st.ev x with
  | .ptr s g ix off=>match st.obj s g with
   | some _=>some (.ptr s g ix off,st)
   | none=>none
  | .p (.fn f caps)=>some (.p (.fn f caps),st)
  | .fn f caps=>some (.fn f caps,st)
  | .p (.ref v)=>some (.p (.ref v),st)
  | .cp v vsz off=>some (.cp v vsz off,st)
  | _=>none
 | .ibin op x y=>match ibin op (st.ev x) (st.ev y) with
  | some v=>some (.p v,st)
  | none=>none
 | .bbin op x y=>match bbin op (st.ev x) (st.ev y) with
  | some v=>some (.p v,st)
  | none=>none
 | .abin ks op x y=>match abin ks op (st.ev x) (st.ev y) with
  | some v=>some (.p v,st)
  | none=>none
 | .not x=>match st.ev x with
  | .p (.bool b)=>some (.p (.bool (!b)),st)
  | _=>none
 | .neg x=>match st.ev x with
  | .p (.int k n)=>some (.p (.int k (k.wrap (0 - n))),st)
  | _=>none
 | .ixor x=>match st.ev x with
  | .p (.int k n)=>match zi7 .xor k (if k.signed then -1 else k.max) n with
   | some v=>some (.p v,st)
   | none=>none
  | _=>none
 | .conv k x=>match st.ev x with
  | .p (.int _ n)=>some (.p (.int k (k.wrap n)),st)
  | _=>none
 | .mkfn f caps=>if (caps.map st.ev).all AV.one then some (.fn f (caps.map st.ev),st) else none
 | .mkslice sz zero l c=>match zht (st.ev l),zht (st.ev c) with
  | some n,some m=>if n<=m/\m<=LIM/\zero.sz=sz/\0<sz then some (.own d (st.site d).length 0 n,st.alloc d ⟨sz,List.replicate n zero.pur⟩) else none
  | _,_=>none
 | .slice sz x lo hi=>match zda st lo 0,st.ev x with
  | some l,.p (.sl es)=>match zda st hi es.length with
   | some h=>if l<=h/\h<=es.length/\es.all (fun e=>e.sz == sz)=true/\0<sz then some (.p (.sl ((es.drop l).take (h - l))),st) else none
   | none=>none
  | some l,.own s g off len=>match zda st hi len with
   | some h=>match st.obj s g with
    | some o=>if l<=h/\h<=len/\off+len<=o.es.length/\o.sz=sz then some (.own s g (off+l) (h - l),st) else none
    | none=>none
   | none=>none
  | some l,.nil=>match zda st hi 0 with
   | some h=>if l=0/\h=0 then some (.nil,st) else none
   | none=>none
  | _,_=>none
 | .faddr off x=>match st.ev x with
  | .ptr s g ix o=>match st.obj s g with
   | some _=>some (.ptr s g ix (o+off),st)
   | none=>none
  | .cp v vsz o=>some (.cp v vsz (o+off),st)
  | _=>none
 | .field off sz ag x=>match (st.ev x).acells with
  | some cs=>match segL cs off sz ag with
   | some v=>some (v,st)
   | none=>none
  | none=>none
 | .iaddr sz x i=>match zht (st.ev i),st.ev x with
  | some n,.p (.sl es)=>match es[n]? with
   | some e=>if e.sz=sz/\0<sz then some (.cp e sz 0,st) else none
   | none=>none
  | some n,.own s g off len=>match st.obj s g with
   | some o=>if n<len/\off+len<=o.es.length/\o.sz=sz then some (.ptr s g (off+n) 0,st) else none
   | none=>none
  | _,_=>none
 | .iaddrA m sz x i=>match zht (st.ev i),st.ev x with
  | some n,.ptr s g ix o=>match st.obj s g with
   | some _=>if n<m then some (.ptr s g ix (o+n*sz),st) else none
   | none=>none
  | some n,.cp v vsz o=>if n<m then some (.cp v vsz (o+n*sz),st) else none
  | _,_=>none
 | .idx m sz ag x i=>match zht (st.ev i) with
  | some n=>if n<m then match (st.ev x).acells with
    | some cs=>match segL cs (n*sz) sz ag with
     | some v=>some (v,st)
     | none=>none
    | none=>none
   else none
  | none=>none
 | .extract x i=>match st.ev x with
  | .tup vs=>match vs[i]? with
   | some v=>some (v,st)
   | none=>none
  | .p (.tup vs)=>match vs[i]? with
   | some v=>some (.p v,st)
   | none=>none
  | _=>none
 | .len x=>match st.ev x with
  | .p (.sl es)=>some (.p (.int .i64 es.length),st)
  | .nil=>some (.p (.int .i64 0),st)
  | .own _ _ _ len=>some (.p (.int .i64 len),st)
  | _=>none
 | .append sz a x=>match st.elems (st.ev x) with
  | some xs=>if (xs.map AV.pur).all (fun v=>v.sz == sz)=true/\0<sz then match st.ev a with
   | .nil=>if xs.length<=LIM then some (.own d (st.site d).length 0 xs.length,st.alloc d ⟨sz,xs.map AV.pur⟩) else none
   | .own s g off len=>match st.obj s g with
    | some o=>if off=0/\len=o.es.length/\o.sz=sz/\len+xs.length<=LIM then
      let st1:=killAll st [(s,g)]
      some (.own d (st1.site d).length 0 (len+xs.length),st1.alloc d ⟨sz,o.es++xs.map AV.pur⟩)
     else none
    | none=>none
   | _=>none
   else none
  | none=>none
 | .min xs=>match zf7 false (xs.map st.ev) with
  | some v=>some (.p v,st)
  | none=>none
 | .max xs=>match zf7 true (xs.map st.ev) with
  | some v=>some (.p v,st)
  | none=>none
 | .call f args=>zcd orc st d f (args.map st.ev)
 | .callv x args=>match st.ev x with
  | .p (.fn f caps)=>zcd orc st d f (args.map st.ev++caps.map .p)
  | .fn f caps=>zcd orc st d f (args.map st.ev++caps)
  | _=>none
 | .isnil neg x=>match st.ev x with
  | .nil=>some (.p (.bool (!neg)),st)
  | .p .nl=>some (.p (.bool (!neg)),st)
  | .p .sle=>some (.p (.bool neg),st)
  | .p (.sl (_::_))=>some (.p (.bool neg),st)
  | .own s g _ len=>match st.obj s g with
   | some _=>if 0<len then some (.p (.bool neg),st) else none
   | none=>none
  | _=>none
 | .cap x=>match st.ev x with
  | .nil=>some (.p (.int .i64 0),st)
  | _=>none
 | .clear sz zero x=>match st.ev x with
  | .nil=>some (.tup [],st)
  | .own s g off len=>match st.obj s g with
   | some o=>if off+len<=o.es.length/\o.sz=sz/\zero.sz=sz then some (.tup [],st.setObj s g ⟨o.sz,o.es.take off++List.replicate len zero.pur++o.es.drop (off+len)⟩) else none
   | none=>none
  | _=>none
 | .copy sz a x=>match st.elems (st.ev x) with
  | some xs=>if (xs.map AV.pur).all (fun v=>v.sz == sz)=true/\0<sz then match st.ev a with
   | .nil=>some (.p (.int .i64 0),st)
   | .own s g off len=>match st.obj s g with
    | some o=>if off+len<=o.es.length/\o.sz=sz then some (.p (.int .i64 (min xs.length len:Nat)),st.setObj s g ⟨o.sz,o.es.take off++(xs.map AV.pur).take (min xs.length len)++o.es.drop (off+min xs.length len)⟩) else none
    | none=>none
   | _=>none
   else none
  | none=>none
 | .appendz sz zero a x=>match st.ev a,zht (st.ev x) with
  | .nil,some n=>if 0<n/\n<=LIM/\zero.sz=sz/\0<sz then some (.own d (st.site d).length 0 n,st.alloc d ⟨sz,List.replicate n zero.pur⟩) else none
  | _,_=>none
 | .sidx x i=>match st.ev x,zht (st.ev i) with
  | .p (.str s),some n=>match s[n]? with
   | some b=>some (.p (.int .u8 b.toNat),st)
   | none=>none
  | _,_=>none
 | .mlook qs zero x k=>match st.ev x,st.ev k with
  | .p (.mp _ ks vs),.p (.agg kc)=>if zcf qs kc=true/\ks.all (zek qs)=true then some (match zbp kc ks vs with|some v=>.p v|none=>zero,st) else none
  | _,_=>none
 | .mlookc qs zero x k=>match st.ev x,st.ev k with
  | .p (.mp _ ks vs),.p (.agg kc)=>if zcf qs kc=true/\ks.all (zek qs)=true then some (match zbp kc ks vs with|some v=>.tup [.p v,.p (.bool true)]|none=>.tup [zero,.p (.bool false)],st) else none
  | _,_=>none
 | .raw _=>none
 | .bad=>none
end Go.Ab
namespace Go.Ab
mutual
inductive PRep (M:Nat->Option Obj):PV->Value->Prop
 | bool (b:Bool):PRep M (.bool b) (.bool b)
 | int (k:IntKind) (n:Int):PRep M (.int k n) (.int k n)
 | str (s:ByteArray):PRep M (.str s) (.string s)
 | nilfn:PRep M .nilfn .nilFunc
 | any (x:Value):x.oneCell'=true->PRep M .any x
 | nl (cap:Nat):PRep M .nl (.slice none 0 cap)
 | sle (a:Addr) (cap:Nat):PRep M .sle (.slice (some a) 0 cap)
 | mapv (r:Nat):PRep M (.mapv r) (.map (some r))
 | itv (r:Nat):PRep M (.itv r) (.pointer (some ⟨r,0,none⟩))
 | mp (r:Nat) (ks vs:List PV) (es:Array MapEntry) (clock:Nat):M r=some (.map es clock)->PReps M ks (es.toList.map (·.key))->PReps M vs (es.toList.map (·.val))->(es.toList.map (·.key)).Nodup ->
   (∀ e∈es.toList,e.born<clock)->(es.toList.map (·.born)).Nodup->PRep M (.mp r ks vs) (.map (some r))
 | sl0 (a:Option Addr) (cap:Nat):PRep M (.sl []) (.slice a 0 cap)
 | sl (es:List PV) (b o cap:Nat) (cur:Array Value) (T:TypeId) (fr:Nat × Nat) (sz:Nat) (vals:List Value) :
   M b=some (.cells cur T fr)->0<sz->(∀ e∈es,e.sz=sz)->(∀ c∈es.flatMap PV.cells,c.one=true)->PReps M (es.flatMap PV.cells) vals ->
   (∀ i v,vals[i]?=some v->cur[o+i]?=some v)->es.length<=cap->es.length<=maxLen->PRep M (.sl es) (.slice (some ⟨b,o,none⟩) es.length cap)
 | agg (cs:List PV) (vals:List Value):(∀ c∈cs,c.one=true)->PReps M cs vals->PRep M (.agg cs) (.agg vals.toArray)
 | fn (f:FuncId) (caps:List PV) (vals:List Value):PReps M caps vals->PRep M (.fn f caps) (.func (.func f) #[] vals.toArray)
 | ref (v:PV) (b o:Nat) (cur:Array Value) (T:TypeId) (fr:Nat × Nat) (vals:List Value) :
   M b=some (.cells cur T fr)->0<v.sz->(∀ c∈v.cells,c.one=true)->PReps M v.cells vals->(∀ i x,vals[i]?=some x->cur[o+i]?=some x) ->
   PRep M (.ref v) (.pointer (some ⟨b,o,none⟩))
 | tup (vs:List PV) (vals:List Value):PReps M vs vals->PRep M (.tup vs) (.tuple vals.toArray)
inductive PReps (M:Nat->Option Obj):List PV->List Value->Prop
 | nil:PReps M [] []
 | cons (v:PV) (x:Value) (vs:List PV) (xs:List Value):PRep M v x->PReps M vs xs->PReps M (v::vs) (x::xs)
end
structure Cz where
 M:Nat->Option Obj
 B:Nat->Nat->Option Nat
 cap:Nat->Nat->Nat
mutual
inductive ARep (Z:Cz) (st:St):AV->Value->Prop
 | p (v:PV) (x:Value):PRep Z.M v x->ARep Z st (.p v) x
 | nil:ARep Z st .nil (.slice none 0 0)
 | own0 (s g:Nat) (o:AObj):st.obj s g=some o->Z.B s g=none->ARep Z st (.own s g 0 0) (.slice none 0 0)
 | own (s g off len:Nat) (o:AObj) (b:Nat) (ad:Addr) (c:Nat):st.obj s g=some o->Z.B s g=some b->(off=0->ad=⟨b,0,none⟩/\c=Z.cap s g) ->
   (0<len->ad=⟨b,off*o.sz,none⟩)->off+len<=o.es.length->len<=c->ARep Z st (.own s g off len) (.slice (some ad) len c)
 | ownD (s g off len:Nat) (ad:Option Addr) (c:Nat):g<(st.site s).length->st.obj s g=none->ARep Z st (.own s g off len) (.slice ad len c)
 | ptr (s g ix off:Nat) (o:AObj) (b:Nat):st.obj s g=some o->Z.B s g=some b->ARep Z st (.ptr s g ix off) (.pointer (some ⟨b,ix*o.sz+off,none⟩))
 | ptrD (s g ix off:Nat) (ad:Option Addr):g<(st.site s).length->st.obj s g=none->ARep Z st (.ptr s g ix off) (.pointer ad)
 | cp (v:PV) (vsz off b o:Nat) (cur:Array Value) (T:TypeId) (fr:Nat × Nat) (vals:List Value) :
   Z.M b=some (.cells cur T fr)->0<vsz->v.sz=vsz->(∀ c∈v.cells,c.one=true)->PReps Z.M v.cells vals->(∀ i x,vals[i]?=some x->cur[o+i]?=some x) ->
   ARep Z st (.cp v vsz off) (.pointer (some ⟨b,o+off,none⟩))
 | agg (cs:List AV) (vals:List Value):(∀ c∈cs,c.one=true)->AReps Z st cs vals->ARep Z st (.agg cs) (.agg vals.toArray)
 | fn (f:FuncId) (caps:List AV) (vals:List Value):AReps Z st caps vals->ARep Z st (.fn f caps) (.func (.func f) #[] vals.toArray)
 | tup (vs:List AV) (vals:List Value):AReps Z st vs vals->ARep Z st (.tup vs) (.tuple vals.toArray)
 | skip:ARep Z st .skip Go.undef
 | undef (x:Value):ARep Z st .undef x
inductive AReps (Z:Cz) (st:St):List AV->List Value->Prop
 | nil:AReps Z st [] []
 | cons (v:AV) (x:Value) (vs:List AV) (xs:List Value):ARep Z st v x->AReps Z st vs xs->AReps Z st (v::vs) (x::xs)
end
structure ORep (Z:Cz) (st:St) (w:World) (s g:Nat) (o:AObj):Prop where
 pos:0<o.sz
 els:∀ e∈o.es,e.sz=o.sz
 one:∀ c∈o.es.flatMap AV.cells,c.one=true
 non:Z.B s g=none->o.es=[]
 blk:∀ b,Z.B s g=some b->∃ (cur:Array Value) (T:TypeId) (vals:List Value),w.heap[b]?=some (.cells cur T (0,0))/\AReps Z st (o.es.flatMap AV.cells) vals /\
  (∀ (i:Nat) (v:Value),vals[i]?=some v->cur[i]?=some v)/\cur.size=Z.cap s g*o.sz/\o.es.length<=Z.cap s g/\Z.cap s g<=maxLen
structure Ctx where
 w0:World
 M0:Nat->Option Obj
 X0:Nat->Prop
 N:Nat
structure Keep (w0 w:World) (X:Nat->Prop):Prop where
 os:w.os=w0.os
 tape:w.tape=w0.tape
 output:w.output=w0.output
 drawn:w0.drawn<=w.drawn
 size:w0.heap.size<=w.heap.size
 blk:∀ b,b<w0.heap.size->¬ X b->w.heap[b]?=w0.heap[b]?
structure HRep (K:Ctx) (Z:Cz) (st:St) (w:World):Prop where
 objs:∀ s g o,st.obj s g=some o->ORep Z st w s g o
 inj:∀ s g s' g' o o' b,st.obj s g=some o->st.obj s' g'=some o'->Z.B s g=some b->Z.B s' g'=some b->s=s'/\g=g'
 mem:∀ b o,Z.M b=some o->w.heap[b]?=some o
 sep:∀ s g o b,st.obj s g=some o->Z.B s g=some b->Z.M b=none
 own:∀ s g o b,st.obj s g=some o->Z.B s g=some b->K.X0 b\/K.w0.heap.size<=b
 m0:∀ b o,K.M0 b=some o->Z.M b=some o
 prov:∀ b o,Z.M b=some o->K.M0 b=some o\/K.X0 b\/K.w0.heap.size<=b
 keep:Keep K.w0 w K.X0
structure StRep (K:Ctx) (Z:Cz) (st:St) (w:World) (a:Act):Prop where
 slots:∀ t,ARep Z st (st.get t) (a.tmps.getD t Go.undef)
 defers:a.defers=[]
 size:a.tmps.size=K.N
 heap:HRep K Z st w
structure ZLe (Z:Cz) (st:St) (Z':Cz) (st':St):Prop where
 M:∀ b o,Z.M b=some o->Z'.M b=some o
 len:∀ s,(st.site s).length<=(st'.site s).length
 dead:∀ s g,g<(st.site s).length->st.obj s g=none->st'.obj s g=none
 live:∀ s g o,st.obj s g=some o->st'.obj s g=none\/∃ o',st'.obj s g=some o'/\o'.sz=o.sz/\o'.es.length=o.es.length/\Z'.B s g=Z.B s g/\Z'.cap s g=Z.cap s g
theorem zbt {st:St} {s g:Nat} {o:AObj} (h:st.obj s g=some o):g<(st.site s).length:=by
 unfold St.obj at h
 rcases Nat.lt_or_ge g (st.site s).length with h'|h'
 ·exact h'
 ·simp [List.getElem?_eq_none h'] at h
mutual
theorem PRep.mono {M M':Nat->Option Obj} (hM:∀ b o,M b=some o->M' b=some o):∀ {v:PV} {x:Value},PRep M v x->PRep M' v x
 | _,_,.bool b=>.bool b
 | _,_,.int k n=>.int k n
 | _,_,.str s=>.str s
 | _,_,.nilfn=>.nilfn
 | _,_,.any x h=>.any x h
 | _,_,.nl c=>.nl c
 | _,_,.sle a c=>.sle a c
 | _,_,.mapv r=>.mapv r
 | _,_,.itv r=>.itv r
 | _,_,.mp r ks vs es clock h0 h1 h2 h3 h4 h5=>.mp r ks vs es clock (hM _ _ h0) (PReps.mono hM h1) (PReps.mono hM h2) h3 h4 h5
 | _,_,.sl0 a c=>.sl0 a c
 | _,_,.sl es b o cap cur T fr sz vals h0 h1 h2 h3 h4 h5 h6 h7=>.sl es b o cap cur T fr sz vals (hM _ _ h0) h1 h2 h3 (PReps.mono hM h4) h5 h6 h7
 | _,_,.agg cs vals h1 h2=>.agg cs vals h1 (PReps.mono hM h2)
 | _,_,.fn f caps vals h=>.fn f caps vals (PReps.mono hM h)
 | _,_,.ref v b o cur T fr vals h0 h1 h2 h3 h4=>.ref v b o cur T fr vals (hM _ _ h0) h1 h2 (PReps.mono hM h3) h4
 | _,_,.tup vs vals h=>.tup vs vals (PReps.mono hM h)
theorem PReps.mono {M M':Nat->Option Obj} (hM:∀ b o,M b=some o->M' b=some o):∀ {v:List PV} {x:List Value},PReps M v x->PReps M' v x
 | _,_,.nil=>.nil
 | _,_,.cons v x vs xs h hs=>.cons v x vs xs (PRep.mono hM h) (PReps.mono hM hs)
end
mutual
theorem ARep.mono {Z Z':Cz} {st st':St} (h:ZLe Z st Z' st'):∀ {v:AV} {x:Value},ARep Z st v x->ARep Z' st' v x
 | _,_,.p v x hp=>.p v x (PRep.mono h.M hp)
 | _,_,.nil=>.nil
 | _,_,.own0 s g o ho hb=>by
  rcases h.live s g o ho with hd|⟨o',ho',h1,h2,h3,h4⟩
  ·exact .ownD s g 0 0 none 0 (Nat.lt_of_lt_of_le (zbt ho) (h.len s)) hd
  ·exact .own0 s g o' ho' (h3.trans hb)
 | _,_,.own s g off len o b ad c ho hb h1 h2 h3 h4=>by
  rcases h.live s g o ho with hd|⟨o',ho',e1,e2,e3,e4⟩
  ·exact .ownD s g off len _ _ (Nat.lt_of_lt_of_le (zbt ho) (h.len s)) hd
  ·exact .own s g off len o' b ad c ho' (e3.trans hb) (by rw [e4]; exact h1) (by rw [e1]; exact h2) (by rw [e2]; exact h3) h4
 | _,_,.ownD s g off len ad c hg hd=>.ownD s g off len ad c (Nat.lt_of_lt_of_le hg (h.len s)) (h.dead s g hg hd)
 | _,_,.ptr s g ix off o b ho hb=>by
  rcases h.live s g o ho with hd|⟨o',ho',e1,e2,e3,e4⟩
  ·exact .ptrD s g ix off _ (Nat.lt_of_lt_of_le (zbt ho) (h.len s)) hd
  ·rw [<- e1]; exact .ptr s g ix off o' b ho' (e3.trans hb)
 | _,_,.ptrD s g ix off ad hg hd=>.ptrD s g ix off ad (Nat.lt_of_lt_of_le hg (h.len s)) (h.dead s g hg hd)
 | _,_,.cp v vsz off b o cur T fr vals h0 h1 h2 h3 h4 h5=>.cp v vsz off b o cur T fr vals (h.M _ _ h0) h1 h2 h3 (PReps.mono h.M h4) h5
 | _,_,.agg cs vals h1 h2=>.agg cs vals h1 (AReps.mono h h2)
 | _,_,.fn f caps vals h1=>.fn f caps vals (AReps.mono h h1)
 | _,_,.tup vs vals h1=>.tup vs vals (AReps.mono h h1)
 | _,_,.skip=>.skip
 | _,_,.undef x=>.undef x
theorem AReps.mono {Z Z':Cz} {st st':St} (h:ZLe Z st Z' st'):∀ {v:List AV} {x:List Value},AReps Z st v x->AReps Z' st' v x
 | _,_,.nil=>.nil
 | _,_,.cons v x vs xs h1 hs=>.cons v x vs xs (ARep.mono h h1) (AReps.mono h hs)
end
theorem ZLe.refl (Z:Cz) (st:St):ZLe Z st Z st :=
 ⟨fun _ _ h=>h,fun _=>Nat.le_refl _,fun _ _ _ h=>h,fun _ _ o h=>.inr ⟨o,h,rfl,rfl,rfl,rfl⟩⟩
theorem ZLe.trans {Z Z' Z'':Cz} {st st' st'':St} (h:ZLe Z st Z' st') (k:ZLe Z' st' Z'' st''):ZLe Z st Z'' st'':=by
 refine ⟨fun b o e=>k.M b o (h.M b o e),fun s=>Nat.le_trans (h.len s) (k.len s),fun s g hg hd=>k.dead s g (Nat.lt_of_lt_of_le hg (h.len s)) (h.dead s g hg hd),fun s g o ho=>?_⟩
 rcases h.live s g o ho with hd|⟨o',ho',e1,e2,e3,e4⟩
 ·exact .inl (k.dead s g (Nat.lt_of_lt_of_le (zbt ho) (h.len s)) hd)
 ·rcases k.live s g o' ho' with hd|⟨o'',ho'',f1,f2,f3,f4⟩
  ·exact .inl hd
  ·exact .inr ⟨o'',ho'',f1.trans e1,f2.trans e2,f3.trans e3,f4.trans e4⟩
theorem PReps.length {M:Nat->Option Obj}:∀ {vs:List PV} {xs:List Value},PReps M vs xs->xs.length=vs.length
 | _,_,.nil=>rfl
 | _,_,.cons _ _ _ _ _ h=>by simp [PReps.length h]
theorem PReps.append {M:Nat->Option Obj}:∀ {vs us:List PV} {xs ys:List Value},PReps M vs xs->PReps M us ys->PReps M (vs++us) (xs++ys)
 | _,_,_,_,.nil,h=>h
 | _,_,_,_,.cons _ _ _ _ h hs,k=>.cons _ _ _ _ h (PReps.append hs k)
theorem PReps.drop {M:Nat->Option Obj}:∀ (n:Nat) {vs:List PV} {xs:List Value},PReps M vs xs->PReps M (vs.drop n) (xs.drop n)
 | 0,_,_,h=>by simpa using h
 | n+1,_,_,.nil=>by simpa using PReps.nil
 | n+1,_,_,.cons _ _ _ _ _ hs=>by simpa using PReps.drop n hs
theorem PReps.take {M:Nat->Option Obj}:∀ (n:Nat) {vs:List PV} {xs:List Value},PReps M vs xs->PReps M (vs.take n) (xs.take n)
 | 0,_,_,_=>by simpa using PReps.nil
 | n+1,_,_,.nil=>by simpa using PReps.nil
 | n+1,_,_,.cons _ _ _ _ h hs=>by simpa using PReps.cons _ _ _ _ h (PReps.take n hs)
theorem PReps.get {M:Nat->Option Obj}:∀ {vs:List PV} {xs:List Value} (i:Nat) (v:PV),PReps M vs xs->vs[i]?=some v->∃ x,xs[i]?=some x/\PRep M v x
 | _,_,i,v,.nil,h=>by simp at h
 | _,_,0,v,.cons u x _ _ h _,e=>by simp at e; subst e; exact ⟨x,by simp,h⟩
 | _,_,i+1,v,.cons _ _ _ _ _ hs,e=>by simp at e; simpa using PReps.get i v hs e
theorem AReps.length {Z:Cz} {st:St}:∀ {vs:List AV} {xs:List Value},AReps Z st vs xs->xs.length=vs.length
 | _,_,.nil=>rfl
 | _,_,.cons _ _ _ _ _ h=>by simp [AReps.length h]
theorem AReps.append {Z:Cz} {st:St}:∀ {vs us:List AV} {xs ys:List Value},AReps Z st vs xs->AReps Z st us ys->AReps Z st (vs++us) (xs++ys)
 | _,_,_,_,.nil,h=>h
 | _,_,_,_,.cons _ _ _ _ h hs,k=>.cons _ _ _ _ h (AReps.append hs k)
theorem AReps.drop {Z:Cz} {st:St}:∀ (n:Nat) {vs:List AV} {xs:List Value},AReps Z st vs xs->AReps Z st (vs.drop n) (xs.drop n)
 | 0,_,_,h=>by simpa using h
 | n+1,_,_,.nil=>by simpa using AReps.nil
 | n+1,_,_,.cons _ _ _ _ _ hs=>by simpa using AReps.drop n hs
theorem AReps.take {Z:Cz} {st:St}:∀ (n:Nat) {vs:List AV} {xs:List Value},AReps Z st vs xs->AReps Z st (vs.take n) (xs.take n)
 | 0,_,_,_=>by simpa using AReps.nil
 | n+1,_,_,.nil=>by simpa using AReps.nil
 | n+1,_,_,.cons _ _ _ _ h hs=>by simpa using AReps.cons _ _ _ _ h (AReps.take n hs)
theorem AReps.get {Z:Cz} {st:St}:∀ {vs:List AV} {xs:List Value} (i:Nat) (v:AV),AReps Z st vs xs->vs[i]?=some v->∃ x,xs[i]?=some x/\ARep Z st v x
 | _,_,i,v,.nil,h=>by simp at h
 | _,_,0,v,.cons u x _ _ h _,e=>by simp at e; subst e; exact ⟨x,by simp,h⟩
 | _,_,i+1,v,.cons _ _ _ _ _ hs,e=>by simp at e; simpa using AReps.get i v hs e
theorem AReps.of_p {Z:Cz} {st:St}:∀ {vs:List PV} {xs:List Value},PReps Z.M vs xs->AReps Z st (vs.map .p) xs
 | _,_,.nil=>.nil
 | _,_,.cons v x _ _ h hs=>.cons _ _ _ _ (.p v x h) (AReps.of_p hs)
theorem AReps.to_p {Z:Cz} {st:St}:∀ {vs:List PV} {xs:List Value},AReps Z st (vs.map .p) xs->PReps Z.M vs xs
 | [],_,.nil=>.nil
 | v::vs,_,.cons _ _ _ _ (.p _ _ h) hs=>.cons _ _ _ _ h (AReps.to_p hs)
theorem zh7:∀ {cs:List AV} {ps:List PV},allP cs=some ps->cs=ps.map .p
 | [],ps,h=>by simp [allP] at h; subst h; rfl
 | .p v::r,ps,h=>by
  simp only [allP] at h
  split at h
  ·rename_i vs hv; cases h; rw [zh7 hv]; rfl
  ·cases h
 | .nil::_,_,h=>by simp [allP] at h
 | .own .. :: _,_,h=>by simp [allP] at h
 | .ptr .. :: _,_,h=>by simp [allP] at h
 | .cp .. :: _,_,h=>by simp [allP] at h
 | .agg .. :: _,_,h=>by simp [allP] at h
 | .fn .. :: _,_,h=>by simp [allP] at h
 | .tup .. :: _,_,h=>by simp [allP] at h
 | .skip::_,_,h=>by simp [allP] at h
 | .undef::_,_,h=>by simp [allP] at h
theorem zln (cs:List AV):(mkAgg cs).cells=cs:=by
 unfold mkAgg
 split
 ·rename_i ps h; rw [zh7 h]; rfl
 ·rfl
theorem zsj (cs:List AV):(mkAgg cs).sz=if cs.length<=1 then 0 else cs.length:=by
 unfold mkAgg
 split
 ·rename_i ps h; rw [zh7 h]; simp [AV.sz,PV.sz]
 ·rfl
theorem ARep.mkAgg {Z:Cz} {st:St} {cs:List AV} {vals:List Value} (h1:∀ c∈cs,c.one=true) (h:AReps Z st cs vals):ARep Z st (mkAgg cs) (.agg vals.toArray):=by
 unfold Ab.mkAgg
 split
 ·rename_i ps hp
  have:=zh7 hp
  subst this
  exact .p _ _ (.agg _ _ (fun c hc=>by have:=h1 (.p c) (List.mem_map.2 ⟨c,hc,rfl⟩); simpa [AV.one] using this) (AReps.to_p h))
 ·exact .agg _ _ h1 h
theorem zgi {x:Value} (h:x.oneCell'=true):x.cells = #[x]:=by cases x<;>first|rfl|simp [Value.oneCell'] at h
theorem PRep.one_val {M:Nat->Option Obj} {v:PV} {x:Value} (h:PRep M v x) (hv:v.one=true):x.oneCell'=true:=by
 cases h<;>first|rfl|assumption|simp [PV.one] at hv
theorem ARep.one_val {Z:Cz} {st:St} {v:AV} {x:Value} (h:ARep Z st v x) (hv:v.one=true):x.oneCell'=true:=by
 cases h<;>first|rfl|(rename_i hp; exact hp.one_val hv)|simp [AV.one] at hv
theorem PV.cells_one {v:PV} (h:v.one=true):v.cells=[v]/\v.sz=1:=by
 cases v<;>first|exact ⟨rfl,rfl⟩|simp [PV.one] at h
theorem AV.cells_one {v:AV} (h:v.one=true):v.cells=[v]/\v.sz=1:=by
 cases v<;>first|exact ⟨rfl,rfl⟩|simp [AV.one] at h|skip
 rename_i v
 cases v<;>first|exact ⟨rfl,rfl⟩|simp [PV.one] at h
theorem PV.sz_pos {v:PV} (h:0<v.sz):v.one=true\/∃ cs,v=.agg cs/\1<cs.length:=by
 cases v<;>first|exact .inl rfl|(simp [PV.sz] at h; done)|skip
 rename_i cs
 refine .inr ⟨cs,rfl,?_⟩
 simp only [PV.sz] at h
 split at h<;>omega
theorem AV.sz_pos {v:AV} (h:0<v.sz):v.one=true\/(∃ cs,v=.agg cs/\1<cs.length)\/∃ cs,v=.p (.agg cs)/\1<cs.length:=by
 cases v<;>first|exact .inl rfl|(simp [AV.sz] at h; done)|skip
 case p v =>
  rcases PV.sz_pos (v:=v) h with h1|⟨cs,rfl,h1⟩
  ·exact .inl h1
  ·exact .inr (.inr ⟨cs,rfl,h1⟩)
 case agg cs =>
  refine .inr (.inl ⟨cs,rfl,?_⟩)
  simp only [AV.sz] at h
  split at h<;>omega
theorem PRep.cells {M:Nat->Option Obj} {v:PV} {x:Value} (h:PRep M v x) (hs:0<v.sz) :
  PReps M v.cells x.cells.toList/\v.cells.length=v.sz/\(∀ c∈v.cells,c.one=true):=by
 rcases PV.sz_pos hs with h1|⟨cs,rfl,h1⟩
 ·obtain ⟨e1,e2⟩:=PV.cells_one h1
  rw [zgi (h.one_val h1),e1,e2]
  exact ⟨.cons _ _ _ _ h .nil,rfl,by simpa using h1⟩
 ·cases h with
  | agg _ vals k1 k2=>exact ⟨by simpa [PV.cells,Value.cells] using k2,by simp [PV.cells,PV.sz]; omega,by simpa [PV.cells] using k1⟩
theorem ARep.cells {Z:Cz} {st:St} {v:AV} {x:Value} (h:ARep Z st v x) (hs:0<v.sz) :
  AReps Z st v.cells x.cells.toList/\v.cells.length=v.sz/\(∀ c∈v.cells,c.one=true):=by
 rcases AV.sz_pos hs with h1|⟨cs,rfl,h1⟩|⟨cs,rfl,h1⟩
 ·obtain ⟨e1,e2⟩:=AV.cells_one h1
  rw [zgi (h.one_val h1),e1,e2]
  exact ⟨.cons _ _ _ _ h .nil,rfl,by simpa using h1⟩
 ·cases h with
  | agg _ vals k1 k2=>exact ⟨by simpa [AV.cells,Value.cells] using k2,by simp [AV.cells,AV.sz]; omega,by simpa [AV.cells] using k1⟩
 ·cases h with
  | p _ _ hp =>
   obtain ⟨a1,a2,a3⟩:=hp.cells (by simpa [AV.sz] using hs)
   refine ⟨by simpa [AV.cells,PV.cells] using AReps.of_p a1,by simpa [AV.cells,AV.sz,PV.cells] using a2,?_⟩
   intro c hc
   simp only [AV.cells,List.mem_map] at hc
   obtain ⟨d,hd,rfl⟩:=hc
   exact a3 d hd
theorem PRep.of_cells {M:Nat->Option Obj} {v:PV} {xs:List Value} (hs:0<v.sz) (h1:∀ c∈v.cells,c.one=true) (h:PReps M v.cells xs) :
  (v.one=true->∃ x,xs=[x]/\PRep M v x)/\(v.one=false->PRep M v (.agg xs.toArray)):=by
 refine ⟨fun ho=>?_,fun ho=>?_⟩
 ·rw [(PV.cells_one ho).1] at h
  cases h with
  | cons _ x _ _ hx hn=>cases hn; exact ⟨x,rfl,hx⟩
 ·rcases PV.sz_pos hs with h2|⟨cs,rfl,h2⟩
  ·rw [ho] at h2; cases h2
  ·exact .agg _ _ h1 h
theorem ARep.of_cells {Z:Cz} {st:St} {v:AV} {xs:List Value} (hs:0<v.sz) (h1:∀ c∈v.cells,c.one=true) (h:AReps Z st v.cells xs) :
  (v.one=true->∃ x,xs=[x]/\ARep Z st v x)/\(v.one=false->ARep Z st v (.agg xs.toArray)):=by
 refine ⟨fun ho=>?_,fun ho=>?_⟩
 ·rw [(AV.cells_one ho).1] at h
  cases h with
  | cons _ x _ _ hx hn=>cases hn; exact ⟨x,rfl,hx⟩
 ·rcases AV.sz_pos hs with h2|⟨cs,rfl,h2⟩|⟨cs,rfl,h2⟩
  ·rw [ho] at h2; cases h2
  ·exact .agg _ _ h1 h
  ·refine .p _ _ (.agg _ _ (fun c hc=>?_) (AReps.to_p h))
   have:=h1 (.p c) (List.mem_map.2 ⟨c,hc,rfl⟩)
   simpa [AV.one] using this
end Go.Ab
