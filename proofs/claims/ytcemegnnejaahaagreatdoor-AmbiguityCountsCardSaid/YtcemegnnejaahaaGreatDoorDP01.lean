/- Lemmas for the law AmbiguityCounts, part 1. No conditions. -/
import Derived.Test.YtcemegnnejaahaaGreatDoorDP00
import Derived.DeepKeys4
import Derived.Laws.StructEq
set_option maxRecDepth 100000
set_option maxHeartbeats 4000000
set_option linter.all false
namespace Go.Ab
def ztc:Value->Option AV
 | .bool b=>some (.p (.bool b))
 | .int k n=>some (.p (.int k n))
 | .string s=>some (.p (.str s))
 | .slice none 0 0=>some .nil
 | .nilFunc=>some (.p .nilfn)
 | .map none=>some (.p .any)
 | .pointer none=>some (.p .any)
 | _=>none
def zmt:List Value->Option (List AV)
 | []=>some []
 | v::r=>match ztc v,zmt r with
  | some a,some b=>some (a::b)
  | _,_=>none
def zxq:Value->Option AV
 | .agg cs=>(zmt cs.toList).map mkAgg
 | v=>ztc v
def zag:Operand->Option Opd
 | .tmp t=>some (.t t)
 | .const v=>(zxq v).map .c
 | .func f=>some (.c (.p (.fn f [])))
 | .global _=>none
def zaz:List Operand->Option (List Opd)
 | []=>some []
 | x::r=>match zag x,zaz r with
  | some a,some b=>some (a::b)
  | _,_=>none
def zes(P:Program)(t:TypeId):Option AV:=(P.info? t).bind fun i=>i.zero.bind zxq
def zdq:List (Nat × Nat)->List (Nat × Operand)->Option (List (Nat × Nat × Opd))
 | _,[]=>some []
 | pl,(i,x)::r=>match pl[i]?,zag x,zdq pl r with
  | some (o,s),some y,some l=>some ((o,s,y)::l)
  | _,_,_=>none
def zfc:List (Nat × Operand)->Option (List (Nat × Opd))
 | []=>some []
 | (i,x)::r=>match zag x,zfc r with
  | some y,some l=>some ((i,y)::l)
  | _,_=>none
def zen(P:Program)(t:TypeId):Option (Option IntKind) :=
 match P.underlying t with
 | some (.int k)=>some (some k)
 | some .bool=>some none
 | _=>none
def ze9(P:Program):List Field->Nat->Option (List (Option IntKind))
 | [],_=>some []
 | f::fs,j=>if f.name ≠ "_" /\ f.offset=j then match zen P f.type,ze9 P fs (j+1)with
  | some k,some l=>some (k::l)
  | _,_=>none
  else none
def zlp(P:Program)(t:TypeId):Option (List (Option IntKind)) :=
 match P.underlying t with
 | some (.struct fs)=>if P.stoodInHeld t=false/\P.eqGuardType P.depth t=false then ze9 P fs.toList 0 else none
 | some (.array n e)=>if (P.info? e).map (·.size)=some 1/\P.eqGuardType P.depth t=false then(zen P e).map (List.replicate n)else none
 | _=>none
def zcm:Option TypeDesc->Bool
 | some (.slice _)=>true
 | _=>false
def zhr(op:BinOp)(x y:Opd):Option IOp :=
 match op,y with
 | .eql,.c .nil=>some (.isnil false x)
 | .neq,.c .nil=>some (.isnil true x)
 | _,_=>none
def z63:Option TypeDesc->Bool
 | some (.int _)=>true
 | _=>false
def zvb(P:Program):List Field->Nat->Option (List IntKind)
 | [],_=>some []
 | f::fs,j=>match P.underlying f.type with
  | some (.int q)=>if f.name ≠ "_" /\ f.offset=j/\P.cellsOf f.type=1 then(zvb P fs (j+1)).map (q :: ·)else none
  | _=>none
def zsc(P:Program)(kt:TypeId):Option (List IntKind) :=
 match P.underlying kt with
 | some (.array n e)=>match P.underlying e with
  | some (.int q)=>if P.cellsOf kt=n/\P.cellsOf e=1/\0<P.types.size then some (List.replicate n q)else none
  | _=>none
 | some (.struct fs)=>if P.keyTypeAt 2 kt=true/\P.keyType kt=true/\P.tiled 2 kt=true/\P.cellsOf kt=fs.size/\0<P.types.size then zvb P fs.toList 0 else none
 | _=>none
def zfu(P:Program)(t:TypeId)(m k:Operand)(c:Bool):Option IOp :=
 match P.underlying t with
 | some (.map kt et)=>(zsc P kt).bind fun qs=>(zag m).bind fun m=>(zag k).bind fun k=>(zes P et).map fun z=>if c=true then .mlookc qs z m k else .mlook qs z m k
 | _=>none
def zg6(fn:Fn)(first caps:Array Operand):Option IOp :=
 match fn with
 | .func f=>if first.size=0 then(zaz caps.toList).map fun l=>.mkfn f l else if caps.size=0 then(match first.toList with|[x]=>(zag x).map fun y=>.mkbm f y|_=>none)else none
 | _=>none
def zuj:Option Operand->Option (Option Opd)
 | none=>some none
 | some x=>(zag x).map some
def zfb(P:Program)(t:TypeId)(x:Operand)(lo hi mx:Option Operand):Option IOp :=
 match mx with
 | some _=>none
 | none=>match P.underlying t with
  | some (.slice e)=>if (P.info? e).isSome=true then(zag x).bind fun x=>(zuj lo).bind fun lo=>(zuj hi).map fun hi=>.slice (tsz P e) x lo hi else none
  | _=>none
def zcp(P:Program)(c:Callee)(argTypes:Array TypeId)(as:List Opd):Option IOp :=
 match c with
 | .value f=>match zag f with
  | some (.c (.p (.fn g [])))=>some (.call g as)
  | some f=>some (.callv f as)
  | none=>none
 | .invoke _ _=>none
 | .builtin b=>match b with
  | .len=>match as with
   | [x]=>if zcm (argTypes[0]?.bind P.underlying)=true then some (.len x)else none
   | _=>none
  | .append=>match as,argTypes[0]?,argTypes[1]? with
   | [a,x],some t,some u=>match P.underlying t with
    | some (.slice e)=>if zcm (P.underlying u)=true/\(zes P e).map AV.sz=some (tsz P e)/\P.bytesOf e<=65536 then some (.append (tsz P e) a x)
     else if z63 (P.underlying u)=true/\(zes P e).map AV.sz=some (tsz P e)/\P.bytesOf e<=65536 then(zes P e).map fun z=>.appendz (tsz P e) z a x else none
    | _=>none
   | _,_,_=>none
  | .cap=>match as with
   | [x]=>if zcm (argTypes[0]?.bind P.underlying)=true then some (.cap x)else none
   | _=>none
  | .clear=>match as,argTypes[0]? with
   | [x],some t=>match P.underlying t with
    | some (.slice e)=>(zes P e).map fun z=>.clear (tsz P e) z x
    | _=>none
   | _,_=>none
  | .min=>some (.min as)
  | .max=>some (.max as)
  | _=>none
def z3f(P:Program)(c:Call):Option IOp:=(zaz c.args.toList).bind fun as=>zcp P c.callee c.argTypes as
def zb2(P:Program)(op:Op):Option IOp :=
 match op with
 | .move x | .assign x=>(zag x).map .mv
 | .pick c a b=>(zag c).bind fun c=>(zag a).bind fun a=>(zag b).map fun b=>.pick c a b
 | .alloc e=>(zes P e).map fun z=>.alloc (tsz P e) z
 | .box e x=>(zag x).map fun x=>.box (tsz P e) x
 | .build t parts=>match P.underlying t with
  | some (.struct fs)=>(fs.toList.mapM fun(f:Field)=>(P.info? f.type).map fun i=>(f.offset,i.size)).bind fun pl =>
   (zes P t).bind fun z=>if 0<z.sz then(zdq pl parts.toList).map fun l=>.build z.cells l else none
  | some (.array n e)=>(P.info? e).bind fun ie=>(zes P t).bind fun z=>if 0<z.sz then
   (zdq ((List.range n).map fun i=>(i*ie.size,ie.size)) parts.toList).map fun l=>.build z.cells l else none
  | _=>none
 | .buildSlice t n parts=>match P.underlying t with
  | some (.slice e)=>(zes P e).bind fun z=>(zfc parts.toList).map fun l=>.bslice (tsz P e) z n l
  | _=>none
 | .load t a=>(zag a).bind fun a=>if tok P t (tsz P t) (tagg P t)then some (.load (tsz P t) (tagg P t) a)else none
 | .store t a x=>(zag a).bind fun a=>(zag x).bind fun x=>if (P.info? t).isSome=true then some (.store (tsz P t) a x)else none
 | .nilCheck x=>(zag x).map .nilck
 | .binOp op t x y _=>(zag x).bind fun x=>(zag y).bind fun y=>match P.underlying t with
  | some (.int _)=>some (.ibin op x y)
  | some .bool=>some (.bbin op x y)
  | some (.slice _)=>zhr op x y
  | _=>(zlp P t).map fun ks=>.abin ks op x y
 | .unOp op _ x=>(zag x).bind fun x=>match op with
  | .not=>some (.not x)
  | .neg=>some (.neg x)
  | .xor=>some (.ixor x)
  | _=>none
 | .convert src dst x=>(zag x).bind fun x=>match P.underlying src,P.underlying dst with
  | some _,some (.int k)=>some (.conv k x)
  | _,_=>none
 | .makeFunc fn first caps=>zg6 fn first caps
 | .makeSlice t l c=>match P.underlying t with
  | some (.slice e)=>(zag l).bind fun l=>(zag c).bind fun c=>(zes P e).bind fun z=>if P.bytesOf e<=65536 then some (.mkslice (tsz P e) z l c)else none
  | _=>none
 | .slice t x lo hi mx=>zfb P t x lo hi mx
 | .fieldAddr s x f=>match P.underlying s with
  | some (.struct fs)=>match fs[f]? with
   | some fd=>if 0<tsz P fd.type then(zag x).map fun x=>.faddr fd.offset x else none
   | none=>none
  | _=>none
 | .field s x f=>match P.underlying s with
  | some (.struct fs)=>match fs[f]? with
   | some fd=>if tok P fd.type (tsz P fd.type) (tagg P fd.type)then(zag x).map fun x=>.field fd.offset (tsz P fd.type) (tagg P fd.type) x else none
   | none=>none
  | _=>none
 | .indexAddr t x i=>match P.underlying t with
  | some (.slice e)=>if (P.info? e).isSome then(zag x).bind fun x=>(zag i).map fun i=>.iaddr (tsz P e) x i else none
  | some (.array n e)=>if (P.info? e).isSome then(zag x).bind fun x=>(zag i).map fun i=>.iaddrA n (tsz P e) x i else none
  | _=>none
 | .index t x i=>match P.underlying t with
  | some (.array n e)=>if tok P e (tsz P e) (tagg P e)then(zag x).bind fun x=>(zag i).map fun i=>.idx n (tsz P e) (tagg P e) x i else none
  | some .string=>(zag x).bind fun x=>(zag i).map fun i=>.sidx x i
  | _=>none
 | .extract x i=>(zag x).map fun x=>.extract x i
 | .call c=>z3f P c
 | .lookup t m k c=>zfu P t m k c
 | .makeMap .. | .mapUpdate .. | .range .. | .next .. | .entry .. => some (.raw op)
 | .makeInterface .. | .panic .. => some .bad
 | _=>none
section
variable {P:Program} {K:Ctx} {Z:Cz} {st st':St} {w:World} {a:Act} {orc:Option PCall} {d:Nat} {v:AV}
theorem zp0{x:Value}{v:AV}(h:ztc x=some v):ARep Z st v x/\v.one=true:=by unfold ztc at h;split at h<;>first|(cases h;exact⟨.p _ _ (.any _ rfl),rfl⟩)|(cases h;exact⟨.p _ _ (by constructor),rfl⟩)|(cases h;exact⟨.nil,rfl⟩)|cases h
theorem zpz:∀ {xs:List Value} {vs:List AV},zmt xs=some vs->AReps Z st vs xs/\∀ c∈vs,c.one=true
 | [],vs,h=>by simp[zmt]at h;subst h;exact⟨.nil,by simp⟩
 | x::xs,vs,h=>by
  simp[zmt]at h;split at h
  ·rename_i a b ha hb;cases h;obtain⟨h1,h2⟩:=zp0 (Z:=Z) (st:=st) ha;obtain⟨h3,h4⟩:=zpz hb;exact⟨.cons _ _ _ _ h1 h3,by simpa using ⟨h2,h4⟩⟩
  ·grind
theorem ztb{x:Value}{v:AV}(h:zxq x=some v):ARep Z st v x:=by
 unfold zxq at h;split at h
 ·rename_i cs;cases hv:zmt cs.toList with
  | none=>simp[hv]at h
  | some vs =>
   simp[hv]at h;subst h;obtain⟨h1,h2⟩:=zpz (Z:=Z) (st:=st) hv;simpa using ARep.mkAgg h2 h1
 ·exact(zp0 h).1
theorem zd2{t:TypeId}{z:AV}(h:zes P t=some z):∃ i x,P.info? t=some i/\i.zero=some x/\∀ (Z:Cz) (st:St),ARep Z st z x:=by
 unfold zes at h;cases hi:P.info? t with
 | none=>simp[hi]at h
 | some i =>
  cases hz:i.zero with
  | none=>simp[hi,hz]at h
  | some x=>simp[hi,hz]at h;exact⟨i,x,rfl,hz,fun Z st=>ztb h⟩
theorem zaq{x:Operand}{y:Opd}(h:zag x=some y)(hs:StRep K Z st w a):ARep Z st (st.ev y) (a.eval x):=by
 cases x with
 | tmp t=>simp[zag]at h;subst h;exact hs.slots t
 | const v =>
  simp[zag]at h;cases hv:zxq v with
  | none=>simp[hv]at h
  | some u=>simp[hv]at h;subst h;exact ztb hv
 | global g=>simp[zag]at h
 | func f=>simp[zag]at h;subst h;exact .p _ _ (.fn f [] [] .nil)
theorem zim:∀ {xs:List Operand} {ys:List Opd},zaz xs=some ys->StRep K Z st w a->AReps Z st (ys.map st.ev) (xs.map a.eval)
 | [],ys,h,_=>by simp[zaz]at h;subst h;exact .nil
 | x::xs,ys,h,hs=>by
  simp[zaz]at h;split at h
  ·rename_i y l hy hl;cases h;exact .cons _ _ _ _ (zaq hy hs) (zim hl hs)
  ·grind
theorem zfs{e:AV}{xs:List Value}{sz:Nat}{ag:Bool}(hs:e.sz=sz)(ha:ag=true->1<sz)(hn:ag=false->sz=1)(h1:∀ c∈e.cells,c.one=true)(h:AReps Z st e.cells xs) :
  (ag=true->ARep Z st e (.agg xs.toArray))/\(ag=false->∃ x,xs=[x]/\ARep Z st e x):=by
 refine⟨fun hg=>?_,fun hg=>?_⟩
 ·have:=ha hg;refine(ARep.of_cells (by omega) h1 h).2 ?_;cases ho:e.one with
  | false=>rfl
  | true=>have:=(AV.cells_one ho).2;omega
 ·have:=hn hg;refine(ARep.of_cells (by omega) h1 h).1 ?_;rcases AV.sz_pos (v:=e) (by omega)with h2|⟨cs,rfl,h2⟩|⟨cs,rfl,h2⟩
  ·omega
  ·rw[AV.sz,yf0 (by omega)]at hs;omega
  ·rw[AV.sz,PV.sz,yf0 (by omega)]at hs;omega
theorem zco(t:TypeId)(ad:Addr):(Instr.loadAt t (.pointer (some ad))).run P w=(loadVar t ad).run P w:=rfl
theorem zrb(t:TypeId)(ad:Addr)(x:Value):(Instr.storeAt t (.pointer (some ad)) x).run P w=(storeVar t ad x).run P w:=rfl
theorem za4{s g:Nat}{o:AObj}(h:st.obj s g=some o)(h':st.obj s g=none):False:=by simp_all
theorem zed{s g ix off:Nat}{o:AObj}{x:Value}(h:ARep Z st (.ptr s g ix off) x)(ho:st.obj s g=some o):∃ b,Z.B s g=some b/\x=.pointer (some ⟨b,ix*o.sz+off,none⟩):=by
 cases h with
 | ptr _ _ _ _ o' b h1 h2=>rw[ho]at h1;cases h1;exact⟨b,h2,rfl⟩
 | ptrD _ _ _ _ _ _ h2=>exact(za4 ho h2).elim
theorem z2y{t:TypeId}{x:Operand}{y:Opd}(hx:zag x=some y)(ht:tok P t (tsz P t) (tagg P t)=true)(hs:StRep K Z st w a)
  (he:eff orc st d (.load (tsz P t) (tagg P t) y)=some (v,st')) :
  Good P K Z st ((do pure (Next.value (<- Instr.loadAt t (a.eval x))):Sem Next).run P w) v st':=by
 have hr:=zaq hx hs;obtain⟨_,_,_,_,_,_,hag,hna⟩:=zhy ht;generalize hsz:tsz P t=sz at *
 generalize hga:tagg P t=ag at *
 generalize a.eval x=X at hr ⊢;simp only[eff]at he;split at he
 ·rename_i s g ix off hev;rw[hev]at hr;split at he
  ·rename_i o ho;obtain⟨b,hb,hxe⟩:=zed hr ho;have hO:=hs.heap.objs s g o ho;obtain⟨cur,T,vals,k1,k2,k3,k4,k5,k6⟩:=hO.blk b hb;split at he
   ·rename_i e hix;have hes:∀ e∈o.es,(AV.cells e).length=o.sz:=fun e he=>by rw[AV.cells_len (by rw[hO.els e he];exact hO.pos),hO.els e he]
    have hseg:=zh7 AV.cells o.sz o.es ix e hes hix;have hlt:=zrz AV.cells o.sz o.es ix e hes hix;have hem:e∈o.es:=List.mem_of_getElem? hix;have hone:∀ c∈e.cells,c.one=true:=fun c hc=>hO.one c (List.mem_flatMap.2 ⟨e,hem,hc⟩);have hk3:∀ (i:Nat) (v:Value),vals[i]?=some v->cur[0+i]?=some v:=by simpa using k3
    split at he
    ·rename_i hc;obtain⟨rfl,rfl⟩:=hc;simp only[yf3,yf5]at he;obtain⟨rfl,rfl⟩:=he;obtain⟨xs,h1,h2,h3,h4⟩:=zho (P:=P) (Z:=Z) (st:=st) (k:=ix*o.sz) (o:=0) ht k1 k2 hk3 hlt;rw[hseg]at h1;obtain⟨r1,r2⟩:=zfs (hO.els e hem) hag hna hone h1;cases ag with
     | true=>have h3:=h3 rfl;rw[hxe];simp only[ygm,ygl]at h3 ⊢;simp only[yfx,zco,h3,yg8,yg0];exact zbc hs.heap (r1 rfl)
     | false =>
      obtain⟨x1,e1,e2⟩:=h4 rfl;obtain⟨x2,e3,e4⟩:=r2 rfl;rw[e1]at e3;cases e3;rw[hxe];simp only[ygm,ygl]at e2 ⊢;simp only[yfx,zco,e2,yg8,yg0];exact zbc hs.heap e4
    ·split at he
     ·rename_i u hu;simp only[yf3,yf5]at he;obtain⟨rfl,rfl⟩:=he;have hel:e.cells.length=o.sz:=hes e hem;cases ag with
      | true =>
       simp only[AV.seg,yf2]at hu;split at hu
       ·rename_i hl;cases hu;have hk:off+sz<=e.cells.length:=by have:=hl.1;have:=hl.2;simp at *;omega
        obtain⟨xs,h1,h2,h3,h4⟩:=zho (P:=P) (Z:=Z) (st:=st) (k:=ix*o.sz+off) (o:=0) ht k1 k2 hk3 (by omega);have e1:((o.es.flatMap AV.cells).drop (ix*o.sz+off)).take sz=(e.cells.drop off).take sz:=by
         rw[<- hseg,yja,ygp,yie]
         congr 1;omega
        rw[e1]at h1;have h3:=h3 rfl;rw[hxe];simp only[ygm]at h3;simp only[yfx,zco,h3,yg8,yg0];exact zbc hs.heap (ARep.mkAgg (fun c hc=>hone c (yga (ygb hc))) h1)
       ·cases hu
      | false =>
       have hs1:=hna rfl;subst hs1;simp only[AV.seg,yf2,yfl,yf9]at hu;have hk:off+1<=e.cells.length:=by
        rcases yg1 off e.cells.length with hlt|hge
        ·omega
        ·rw[yhf hge]at hu;simp at hu
       obtain⟨xs,h1,h2,h3,h4⟩:=zho (P:=P) (Z:=Z) (st:=st) (k:=ix*o.sz+off) (o:=0) ht k1 k2 hk3 (by omega);have e1:((o.es.flatMap AV.cells).drop (ix*o.sz+off)).take 1=(e.cells.drop off).take 1:=by
        rw[<- hseg,yja,ygp,yie]
        congr 1;omega
       rw[e1]at h1;obtain⟨x1,e2,e3⟩:=h4 rfl;subst e2;rw[hxe];simp only[ygm]at e3;simp only[yfx,zco,e3,yg8,yg0];refine zbc hs.heap ?_;cases h1':(e.cells.drop off).take 1 with
       | nil=>rw[h1']at hu;simp at hu
       | cons c r =>
        rw[h1']at hu h1;simp at hu;subst hu;cases h1 with|cons _ _ _ _ hx _=>exact hx
     ·cases he
   ·cases he
  ·cases he
 ·rename_i pv vsz off hev;rw[hev]at hr;cases hr with
  | cp _ _ _ b o cur T fr vals m0 m1 m2 m3 m4 m5 =>
   have hm:=hs.heap.mem b _ m0;have hr':AReps Z st (pv.cells.map .p) vals:=AReps.of_p m4;have hlen:pv.cells.length=vsz:=by rw[PV.cells_len (by omega)];exact m2
   split at he
   ·rename_i hc;obtain⟨rfl,hszv⟩:=hc;simp only[yf3,yf5]at he;obtain⟨rfl,rfl⟩:=he;obtain⟨xs,h1,h2,h3,h4⟩:=zho (P:=P) (Z:=Z) (st:=st) (k:=0) (o:=o) ht hm hr' m5 (by simp;omega);rw[yhx,yfw (by simp;omega),<- AV.cells_p]at h1;obtain⟨r1,r2⟩:=zfs (e:=.p pv) (sz:=sz) (by rw[AV.sz_p,m2,hszv]) hag hna (by rw[AV.cells_p];intro c hc;simp at hc;obtain⟨q,hq,rfl⟩:=hc;exact m3 q hq) h1;cases ag with
    | true=>simp only[yfx,zco,h3 rfl,yg8,yg0];exact zbc hs.heap (r1 rfl)
    | false =>
     obtain⟨x1,e1,e2⟩:=h4 rfl;obtain⟨x2,e3,e4⟩:=r2 rfl;rw[e1]at e3;cases e3;simp only[yfx,zco,e2,yg8,yg0];exact zbc hs.heap e4
   ·split at he
    ·rename_i u hu;simp only[yf3,yf5]at he;obtain⟨rfl,rfl⟩:=he;cases ag with
     | true =>
      simp only[PV.seg,yf2]at hu;split at hu
      ·rename_i hl;cases hu;have hk:off+sz<=pv.cells.length:=by have:=hl.1;have:=hl.2;simp at *;omega
       obtain⟨xs,h1,h2,h3,h4⟩:=zho (P:=P) (Z:=Z) (st:=st) (k:=off) (o:=o) ht hm hr' m5 (by simpa using hk);simp only[Sem.run_bind,zco,h3 rfl,Result.andThen_ok,Sem.run_pure];rw[<- List.map_drop,<- List.map_take]at h1;exact zbc hs.heap (.p _ _ (.agg _ _ (fun c hc=>m3 c (List.mem_of_mem_drop (List.mem_of_mem_take hc))) (AReps.to_p h1)))
      ·cases hu
     | false =>
      have hs1:=hna rfl;subst hs1;simp only[PV.seg,yf2,yfl,yf9]at hu;have hk:off+1<=pv.cells.length:=by
       rcases yg1 off pv.cells.length with hlt|hge
       ·omega
       ·rw[yhf hge]at hu;simp at hu
      obtain⟨xs,h1,h2,h3,h4⟩:=zho (P:=P) (Z:=Z) (st:=st) (k:=off) (o:=o) ht hm hr' m5 (by simpa using hk);obtain⟨x1,e2,e3⟩:=h4 rfl;subst e2;simp only[Sem.run_bind,zco,e3,Result.andThen_ok,Sem.run_pure];refine zbc hs.heap ?_;rw[<- List.map_drop,<- List.map_take]at h1;have h1:=AReps.to_p h1;cases h1':(pv.cells.drop off).take 1 with
      | nil=>rw[h1']at hu;simp at hu
      | cons c r =>
       rw[h1']at hu h1;simp at hu;subst hu;cases h1 with|cons _ _ _ _ hx _=>exact .p _ _ hx
    ·cases he
 ·cases he
end
section
variable {P:Program} {K:Ctx} {Z Z':Cz} {st st':St} {w w':World} {a:Act} {orc:Option PCall} {d:Nat} {v:AV}
theorem zem{s:Sem Value}{x:Value}(hr:s.run P w=.ok x w')(hh:HRep K Z' st' w')(hv:ARep Z' st' v x)(hz:ZLe Z st Z' st') :
  Good P K Z st ((do pure (Next.value (<- s)):Sem Next).run P w) v st':=by
 simp only[yfx,hr,yg8,yg0];exact⟨_,x,w',Z',rfl,.inl rfl,hh,hv,hz⟩
theorem zap{s:Sem Value}{x:Value}(hr:s.run P w=.ok x w)(hs:StRep K Z st w a)(hv:ARep Z st v x) :
  Good P K Z st ((do pure (Next.value (<- s)):Sem Next).run P w) v st:=zem hr hs.heap hv (ZLe.refl Z st)
theorem yae{s:Sem Unit}(hr:s.run P w=.ok () w')(hh:HRep K Z' st' w')(hz:ZLe Z st Z' st') :
  Good P K Z st ((do s;pure Next.skip:Sem Next).run P w) .undef st':=by
 simp only[yfx,hr,yg8,yg0];exact⟨_,Go.undef,w',Z',rfl,.inr ⟨rfl,rfl⟩,hh,.undef _,hz⟩
theorem z4q{x:Operand}{y:Opd}(hx:zag x=some y)(hs:StRep K Z st w a)(he:eff orc st d (.mv y)=some (v,st')) :
  Good P K Z st ((pure (Next.value (a.eval x)):Sem Next).run P w) v st':=by
 simp only[eff,yf3,yf5]at he;obtain⟨rfl,rfl⟩:=he;exact zbc hs.heap (zaq hx hs)
theorem z2v{c x y:Operand}{c' x' y':Opd}(hc:zag c=some c')(hx:zag x=some x')(hy:zag y=some y')(hs:StRep K Z st w a)
  (he:eff orc st d (.pick c' x' y')=some (v,st')) :
  Good P K Z st ((do pure (Next.value (if <- asBool (a.eval c)then a.eval x else a.eval y)):Sem Next).run P w) v st':=by
 have h1:=zaq hc hs;have h2:=zaq hx hs;have h3:=zaq hy hs;simp only[eff]at he;split at he
 ·rename_i e;rw[e]at h1;rw[h1.inv_bool];simp only[yf3,yf5]at he;obtain⟨rfl,rfl⟩:=he;simp only[asBool,yfx,yg0,yg8,yf2];exact zbc hs.heap h2
 ·rename_i e;rw[e]at h1;rw[h1.inv_bool];simp only[yf3,yf5]at he;obtain⟨rfl,rfl⟩:=he;simp only[asBool,yfx,yg0,yg8];exact zbc hs.heap h3
 ·cases he
theorem zt0{sz:Nat}{x:AV}{X:Value}{e:TypeId}(hs:StRep K Z st w a)(hx:ARep Z st x X)(hsz:x.sz=sz)(hp:0<sz) :
  ∃ Z',(newVar e X).run P w=.ok ⟨w.heap.size,0,none⟩ (w.alloc (.cells X.cells e))/\HRep K Z' (st.alloc d ⟨sz,[x]⟩) (w.alloc (.cells X.cells e)) /\
   ARep Z' (st.alloc d ⟨sz,[x]⟩) (.ptr d (st.site d).length 0 0) (.pointer (some ⟨w.heap.size,0,none⟩))/\ZLe Z st Z' (st.alloc d ⟨sz,[x]⟩):=by
 obtain⟨h1,h2,h3⟩:=hx.cells (by omega)
 have hh:=hs.heap.alloc d ⟨sz,[x]⟩ X.cells e 1 X.cells.toList hp (by simpa using hsz) (by simpa using h3) (by simpa using h1) (by simp)
  (by have:=h1.length;simp at this;simp;omega) (by simp) (by simp[maxLen])
 refine⟨_,by simp[newVar,newRow],hh,?_,ZLe.alloc _ _ _ _ _ _⟩;have:=ARep.ptr (Z:=Z.setB d (st.site d).length (some w.heap.size) 1) (st:=st.alloc d ⟨sz,[x]⟩) d (st.site d).length 0 0 ⟨sz,[x]⟩ w.heap.size (by rw[zan,if_pos ⟨rfl,rfl⟩]) (by simp[Cz.setB]);simpa using this
theorem zzl{e:TypeId}{z:AV}(hz:zes P e=some z)(hs:StRep K Z st w a)(he:eff orc st d (.alloc (tsz P e) z)=some (v,st')) :
  Good P K Z st ((do pure (Next.value (<- Instr.alloc e true (.tuple #[]))):Sem Next).run P w) v st':=by
 obtain⟨i,x,hi,hzv,hr⟩:=zd2 hz;simp only[eff]at he;split at he
 ·rename_i hc;simp only[yf3,yf5]at he;obtain⟨rfl,rfl⟩:=he;obtain⟨Z',h1,h2,h3,h4⟩:=zt0 (P:=P) (e:=e) (d:=d) hs (hr Z st) hc.1 hc.2;exact zem (by simp[Instr.alloc,zeroValue,typeInfo,hi,hzv,h1]) h2 h3 h4
 ·cases he
theorem z7l{e:TypeId}{x:Operand}{y:Opd}(hx:zag x=some y)(hs:StRep K Z st w a)(he:eff orc st d (.box (tsz P e) y)=some (v,st')) :
  Good P K Z st ((do pure (Next.value (<- Instr.box e (a.eval x))):Sem Next).run P w) v st':=by
 have hr:=zaq hx hs;simp only[eff]at he;split at he
 ·rename_i hc;simp only[yf3,yf5]at he;obtain⟨rfl,rfl⟩:=he;obtain⟨Z',h1,h2,h3,h4⟩:=zt0 (P:=P) (e:=e) (d:=d) hs hr hc.1 hc.2;exact zem (by simp[Instr.box,h1]) h2 h3 h4
 ·cases he
theorem zzb{t:TypeId}{p x:Operand}{q y:Opd}(hp:zag p=some q)(hx:zag x=some y)(ht:(P.info? t).isSome=true)(hs:StRep K Z st w a)
  (he:eff orc st d (.store (tsz P t) q y)=some (v,st')) :
  Good P K Z st ((do Instr.storeAt t (a.eval p) (a.eval x);pure Next.skip:Sem Next).run P w) v st':=by
 have hr:=zaq hp hs;have hy:=zaq hx hs;obtain⟨i,hi⟩:=yhy.1 ht;have hsi:i.size=tsz P t:=by simp[tsz,Program.cellsOf,hi]
 generalize tsz P t=sz at *
 simp only[eff]at he;generalize a.eval p=X at hr ⊢;generalize a.eval x=Y at hy ⊢;generalize st.ev y=yv at *
 split at he
 ·rename_i s g ix off hev;rw[hev]at hr;split at he
  ·rename_i o ho;obtain⟨b,hb,hxe⟩:=zed hr ho;have hO:=hs.heap.objs s g o ho;obtain⟨cur,T,vals,k1,k2,k3,k4,k5,k6⟩:=hO.blk b hb;split at he
   ·rename_i e hix;have hes:∀ e∈o.es,(AV.cells e).length=o.sz:=fun e he=>by rw[AV.cells_len (by rw[hO.els e he];exact hO.pos),hO.els e he]
    have hseg:=zh7 AV.cells o.sz o.es ix e hes hix;have hlt:=zrz AV.cells o.sz o.es ix e hes hix;have hem:e∈o.es:=yhi hix;have hone:∀ c∈e.cells,c.one=true:=fun c hc=>hO.one c (yg3.2 ⟨e,hem,hc⟩);have hixl:ix<o.es.length:=(yh6.1 hix).1;obtain⟨rest,hrest⟩:=zw8 k3;have hvl:=k2.length
    have key:∀ (e':AV) (off:Nat),0<yv.sz->e'.sz=o.sz->e'.cells=e.cells.take off++yv.cells++e.cells.drop (off+yv.cells.length)->off+yv.cells.length<=e.cells.length->yv.cells.length=sz ->
      Good P K Z st ((do Instr.storeAt t (.pointer (some ⟨b,ix*o.sz+off,none⟩)) Y;pure Next.skip:Sem Next).run P w) .undef (st.setObj s g ⟨o.sz,o.es.set ix e'⟩):=by
     intro e' off hpos hsz' hcells hle hysz;obtain⟨y1,y2,y3⟩:=hy.cells hpos;have hyl:=y1.length;have hel:=hes e hem;have hcur:cur.size=(vals++rest).length:=by rw[<- hrest];simp
     have hYsz:Y.cells.size=sz:=by have:=hyl;simp at this;omega
     have hst:=z00 (P:=P) (t:=t) (sz:=sz) (x:=Y) (o:=ix*o.sz+off) hi hsi k1 hYsz (by rw[hcur];simp;omega) (zcu y1 y3);have hle':ix*o.sz+off+sz<=vals.length:=by omega
     have hnew:(cur.toList.take (ix*o.sz+off)++Y.cells.toList++cur.toList.drop (ix*o.sz+off+sz)) =
       (vals.take (ix*o.sz+off)++Y.cells.toList++vals.drop (ix*o.sz+off+sz))++rest:=by
      rw[hrest,yj8 (by omega),yis (by omega)];simp[yhr]
     have hflat:(o.es.set ix e').flatMap AV.cells=(o.es.flatMap AV.cells).take (ix*o.sz+off)++yv.cells++(o.es.flatMap AV.cells).drop (ix*o.sz+off+sz):=by
      rw[zop AV.cells o.sz o.es ix e' hes hixl,hcells,<- hseg,hysz];have e1:List.take off (List.take o.sz (List.drop (ix*o.sz) (o.es.flatMap AV.cells)))=List.drop (ix*o.sz) (List.take (ix*o.sz+off) (o.es.flatMap AV.cells)):=by
       rw[yie,yja]
       congr 1;omega
      have e2:List.drop (off+sz) (List.take o.sz (List.drop (ix*o.sz) (o.es.flatMap AV.cells)))++List.drop (ix*o.sz+o.sz) (o.es.flatMap AV.cells)=List.drop (ix*o.sz+off+sz) (o.es.flatMap AV.cells):=by
       rw[yja,ygp,<- Nat.add_assoc];have h1:ix*o.sz+o.sz=(ix*o.sz+off+sz)+(o.sz - (off+sz)):=by omega
       have h2:List.drop (ix*o.sz+o.sz) (o.es.flatMap AV.cells)=List.drop (o.sz - (off+sz)) (List.drop (ix*o.sz+off+sz) (o.es.flatMap AV.cells)):=by rw[ygp,<- h1]
       rw[h2];exact yif _ _
      rw[e1];have e3:List.take (ix*o.sz) (o.es.flatMap AV.cells)++List.drop (ix*o.sz) (List.take (ix*o.sz+off) (o.es.flatMap AV.cells))=List.take (ix*o.sz+off) (o.es.flatMap AV.cells):=by have:=yif (ix*o.sz) (List.take (ix*o.sz+off) (o.es.flatMap AV.cells));rw[yie,yhj (by omega)]at this;exact this
      simp only[yhr]at e3 ⊢;rw[<- List.append_assoc,e3,e2]
     have hh:=hs.heap.setObj ho hb (o.es.set ix e') (cur.toList.take (ix*o.sz+off)++Y.cells.toList++cur.toList.drop (ix*o.sz+off+sz)).toArray
      (vals.take (ix*o.sz+off)++Y.cells.toList++vals.drop (ix*o.sz+off+sz))
      (fun z hz=>by
       rcases yjs hz with h|h
       ·exact hO.els z h
       ·rw[h];exact hsz')
      (fun c hc=>by
       rw[hflat]at hc;rcases yfk.1 hc with h|h
       ·rcases yfk.1 h with h|h
        ·exact hO.one c (ygb h)
        ·exact y3 c h
       ·exact hO.one c (yga h))
      (by simp)
      (by rw[hflat];exact((k2.take _).append y1).append (k2.drop _))
      (zms hnew)
      (by
       have:(cur.toList.take (ix*o.sz+off)++Y.cells.toList++cur.toList.drop (ix*o.sz+off+sz)).length=cur.size:=by
        have hc2:cur.toList.length=cur.size:=by simp
        simp only[ygi,yh8,yhk,hc2,yiu,hYsz];rw[hcur];simp;omega
       simp only[yjb,this];exact k4)
     exact yae (by rw[zrb];exact hst) hh (ZLe.setObj Z st s g o _ ho rfl (by simp))
    split at he
    ·rename_i hys;split at he
     ·rename_i hc;obtain⟨rfl,hc2⟩:=hc;simp only[yf3,yf5]at he;obtain⟨rfl,rfl⟩:=he;have hp1:0<yv.sz:=by omega
      have hl1:=AV.cells_len hp1;have hel:=hes e hem;rw[hxe];exact key yv 0 hp1 (by omega) (by simp[yhf (show e.cells.length<=yv.cells.length from by omega)]) (by omega) (by omega)
     ·split at he
      ·rename_i e' hset;simp only[yf3,yf5]at he;obtain⟨rfl,rfl⟩:=he;unfold AV.setSeg at hset;split at hset
       ·rename_i hb2;cases hset;rw[hxe];have hel:=hes e hem;have hp1:0<yv.sz:=by omega
        have hl1:=AV.cells_len hp1;exact key _ off hp1 (by rw[zsw,yf0]<;>simp<;>omega) (zlz _) hb2.1 (by omega)
       ·cases hset
      ·cases he
    ·cases he
   ·cases he
  ·cases he
 ·cases he
end
section
variable {P:Program} {K:Ctx} {Z Z':Cz} {st st':St} {w w':World} {a:Act} {orc:Option PCall} {d:Nat} {v:AV}
theorem zzd{msg:String}{x:Operand}{y:Opd}(hx:zag x=some y)(hs:StRep K Z st w a)(he:eff orc st d (.nilck y)=some (v,st')) :
  Good P K Z st ((match a.eval x with
  | .pointer none | .nilIface | .nilFunc=>runtimePanic .nilDeref
  | .func (.method name) first captured =>
   match (first[0]?:Option Value)with
   | some .nilIface=>runtimePanic .nilDeref
   | some (.iface t w)=>do
    if (<- nilAhead ((<- program).types.size+Made.depth) t w name) != some false then
     unsupported (.noEntry msg)
    pure (.value (.func (.method name) first captured))
   | _=>pure (.value (.func (.method name) first captured))
  | x=>pure (.value x):Sem Next).run P w) v st':=by
 have hr:=zaq hx hs;generalize a.eval x=X at hr ⊢;simp only[eff]at he;split at he
 ·rename_i s g ix off hev;rw[hev]at hr;split at he
  ·rename_i o ho;simp only[yf3,yf5]at he;obtain⟨rfl,rfl⟩:=he;obtain⟨b,hb,rfl⟩:=zed hr ho;exact zbc hs.heap hr
  ·cases he
 ·rename_i hev;rw[hev]at hr;simp only[yf3,yf5]at he;obtain⟨rfl,rfl⟩:=he;have hp:=hr.inv_p;cases hp with
  | fn f caps vals h=>exact zbc hs.heap hr
 ·rename_i hev;rw[hev]at hr;simp only[yf3,yf5]at he;obtain⟨rfl,rfl⟩:=he;cases hr with
  | fn _ _ vals h=>exact zbc hs.heap (.fn _ _ vals h)
 ·rename_i hev;rw[hev]at hr;simp only[yf3,yf5]at he;obtain⟨rfl,rfl⟩:=he;have hp:=hr.inv_p;cases hp with
  | ref v b o cur T fr vals h0 h1 h2 h3 h4=>exact zbc hs.heap hr
 ·rename_i hev;rw[hev]at hr;simp only[yf3,yf5]at he;obtain⟨rfl,rfl⟩:=he;cases hr with
  | cp _ _ _ b o cur T fr vals h0 h1 h2 h3 h4 h5=>exact zbc hs.heap (.cp _ _ _ b o cur T fr vals h0 h1 h2 h3 h4 h5)
 ·cases he
theorem zuw{op:BinOp}{k:IntKind}{x y:Int}{r:PV}{t:TypeId}{M:Nat->Option Obj}(hk:zdu op=false)(h:zjb op k x y=some r) :
  ∃ z,(binOp op t (.int k x) (.int k y)).run P w=.ok z w/\PRep M r z:=by
 cases op<;>simp only[zdu,yjt]at hk<;>simp only[zjb]at h <;>
  first
  | (cases h;refine⟨_,?_,by constructor⟩;simp[binOp,Op.intArith,Op.intBits,Op.intCmp];done)
  | (split at h<;>first|(cases h;done)|(cases h;rename_i h0;refine⟨_,?_,by constructor⟩;simp[binOp,Op.intDiv,h0]))
theorem zpn{op:BinOp}{k k':IntKind}{x y:Int}{r:PV}{t:TypeId}{M:Nat->Option Obj}(hk:zdu op=true)(h:zh0 op k x y=some r) :
  ∃ z,(binOp op t (.int k x) (.int k' y)).run P w=.ok z w/\PRep M r z:=by
 unfold zh0 at h;split at h
 ·cases h
 ·rename_i h0;cases op<;>simp only[zdu,yfl]at hk<;>cases h<;>refine⟨_,?_,by constructor⟩<;>simp[binOp,Op.shift,h0]
theorem zr2{op:BinOp}{t:TypeId}{x y:Operand}{k k':IntKind}{n m:Int}:eqGuard op t x y (.int k n) (.int k' m)=pure ():=by cases op<;>rfl
theorem zqj{op:BinOp}{t:TypeId}{x y:Operand}{n m:Bool}:eqGuard op t x y (.bool n) (.bool m)=pure ():=by cases op<;>rfl
theorem z20{op:BinOp}{t:TypeId}{x y:Operand}{x' y':Opd}(hx:zag x=some x')(hy:zag y=some y')(hs:StRep K Z st w a)
  (he:eff orc st d (.ibin op x' y')=some (v,st')) :
  Good P K Z st ((do pure (Next.value (<- (do eqGuard op t x y (a.eval x) (a.eval y);binOp op t (a.eval x) (a.eval y)))):Sem Next).run P w) v st':=by
 have h1:=zaq hx hs;have h2:=zaq hy hs;simp only[eff]at he;split at he
 ·rename_i r hr;simp only[yf3,yf5]at he;obtain⟨rfl,rfl⟩:=he;unfold ibin at hr;split at hr
  ·rename_i k n k' m e1 e2;rw[e1]at h1;rw[e2]at h2;rw[h1.inv_int,h2.inv_int];have hg:(eqGuard op t x y (.int k n) (.int k' m)).run P w=.ok () w:=by rw[zr2];rfl
   split at hr
   ·rename_i hk;obtain⟨z,r1,r2⟩:=zpn (P:=P) (w:=w) (t:=t) (k':=k') (M:=Z.M) hk hr;exact zap (by simp[hg,r1]) hs (.p _ _ r2)
   ·rename_i hk;split at hr
    ·rename_i hkk;subst hkk;obtain⟨z,r1,r2⟩:=zuw (P:=P) (w:=w) (t:=t) (M:=Z.M) (by simpa using hk) hr;exact zap (by simp[hg,r1]) hs (.p _ _ r2)
    ·cases hr
  ·cases hr
 ·cases he
theorem z23{op:BinOp}{t:TypeId}{x y:Operand}{x' y':Opd}(ht:P.underlying t=some .bool)(hx:zag x=some x')(hy:zag y=some y')(hs:StRep K Z st w a)
  (he:eff orc st d (.bbin op x' y')=some (v,st')) :
  Good P K Z st ((do pure (Next.value (<- (do eqGuard op t x y (a.eval x) (a.eval y);binOp op t (a.eval x) (a.eval y)))):Sem Next).run P w) v st':=by
 have h1:=zaq hx hs;have h2:=zaq hy hs;simp only[eff]at he;split at he
 ·rename_i r hr;simp only[yf3,yf5]at he;obtain⟨rfl,rfl⟩:=he;unfold bbin at hr;split at hr
  ·rename_i k n e1 e2;rw[e1]at h1;rw[e2]at h2;rw[h1.inv_bool,h2.inv_bool];have hg:(eqGuard op t x y (.bool k) (.bool n)).run P w=.ok () w:=by rw[zqj];rfl
   have hq:(Op.equal t (.bool k) (.bool n)).run P w=.ok (k == n) w:=run_equalIn_bool w _ t k n ht;split at hr
   ·cases hr;exact zap (by simp[hg,binOp,hq]) hs (.p _ _ (.bool _))
   ·cases hr;exact zap (by simp[hg,binOp,hq]) hs (.p _ _ (.bool _))
   ·cases hr
  ·cases hr
 ·cases he
theorem z7f{x:Operand}{y:Opd}(hx:zag x=some y)(hs:StRep K Z st w a)(he:eff orc st d (.not y)=some (v,st')) :
  Good P K Z st ((do pure (Next.value (<- Op.unary .not (a.eval x))):Sem Next).run P w) v st':=by
 have hr:=zaq hx hs;simp only[eff]at he;split at he
 ·rename_i e;rw[e]at hr;rw[hr.inv_bool];simp only[yf3,yf5]at he;obtain⟨rfl,rfl⟩:=he;exact zap (by simp[Op.unary]) hs (.p _ _ (.bool _))
 ·cases he
theorem z7g{x:Operand}{y:Opd}(hx:zag x=some y)(hs:StRep K Z st w a)(he:eff orc st d (.neg y)=some (v,st')) :
  Good P K Z st ((do pure (Next.value (<- Op.unary .neg (a.eval x))):Sem Next).run P w) v st':=by
 have hr:=zaq hx hs;simp only[eff]at he;split at he
 ·rename_i e;rw[e]at hr;rw[hr.inv_int];simp only[yf3,yf5]at he;obtain⟨rfl,rfl⟩:=he;exact zap (by simp[Op.unary,Op.intArith]) hs (.p _ _ (.int _ _))
 ·cases he
theorem z2z{x:Operand}{y:Opd}(hx:zag x=some y)(hs:StRep K Z st w a)(he:eff orc st d (.ixor y)=some (v,st')) :
  Good P K Z st ((do pure (Next.value (<- Op.unary .xor (a.eval x))):Sem Next).run P w) v st':=by
 have hr:=zaq hx hs;simp only[eff]at he;split at he
 ·rename_i e;rw[e]at hr;rw[hr.inv_int];simp only[zjb,yf3,yf5]at he;obtain⟨rfl,rfl⟩:=he;exact zap (by simp[Op.unary,Op.intBits]) hs (.p _ _ (.int _ _))
 ·cases he
theorem z21{s t:TypeId}{ds:TypeDesc}{k:IntKind}{x:Operand}{y:Opd}(h1:P.underlying s=some ds)(h2:P.underlying t=some (.int k))(hx:zag x=some y)(hs:StRep K Z st w a)
  (he:eff orc st d (.conv k y)=some (v,st')) :
  Good P K Z st ((do pure (Next.value (<- convert s t (a.eval x))):Sem Next).run P w) v st':=by
 have hr:=zaq hx hs;simp only[eff]at he;split at he
 ·rename_i e;rw[e]at hr;rw[hr.inv_int];simp only[yf3,yf5]at he;obtain⟨rfl,rfl⟩:=he;refine zap (x:=.int k (k.wrap _)) ?_ hs (.p _ _ (.int _ _));cases ds<;>simp[convert,run_underlying h1,run_underlying h2,Conv.intToInt]
 ·cases he
theorem z2w{f:FuncId}{caps:Array Operand}{ys:List Opd}(hx:zaz caps.toList=some ys)(hs:StRep K Z st w a)(he:eff orc st d (.mkfn f ys)=some (v,st')) :
  Good P K Z st ((do pure (Next.value (<- Instr.makeFunc (.func f) ((#[]:Array Operand).map a.eval) (caps.map a.eval))):Sem Next).run P w) v st':=by
 have hr:=zim hx hs;simp only[eff]at he;split at he
 ·simp only[Option.some.injEq,Prod.mk.injEq]at he;obtain⟨rfl,rfl⟩:=he;refine zap (x:=.func (.func f) #[] (caps.map a.eval)) (by simp[Instr.makeFunc]) hs ?_;have:=ARep.fn f _ _ hr;simpa[<- Array.toList_map]using this
 ·cases he
theorem z2x{f:FuncId}{x:Operand}{first:Array Operand}{y:Opd}(hf:first.toList=[x])(hx:zag x=some y)(hs:StRep K Z st w a)(he:eff orc st d (.mkbm f y)=some (v,st')) :
  Good P K Z st ((do pure (Next.value (<- Instr.makeFunc (.func f) (first.map a.eval) ((#[]:Array Operand).map a.eval))):Sem Next).run P w) v st':=by
 have hr:=zaq hx hs;have e1:first = #[x]:=by rw[<- hf]
 subst e1;simp only[eff]at he;split at he
 ·rename_i u e;rw[e]at hr;simp only[yf3,yf5]at he;obtain⟨rfl,rfl⟩:=he;exact zap (x:=.func (.func f) #[a.eval x] #[]) (by simp[Instr.makeFunc]) hs (.p _ _ (.bm f _ _ hr.inv_p))
 ·cases he
theorem zzi{s:TypeId}{fs:Array Field}{n:Nat}{fd:Field}{x:Operand}{y:Opd}(h1:P.underlying s=some (.struct fs))(h2:fs[n]?=some fd)(h3:0<tsz P fd.type)
  (hx:zag x=some y) (hs:StRep K Z st w a) (he:eff orc st d (.faddr fd.offset y)=some (v,st')) :
  Good P K Z st ((do pure (Next.value (<- Instr.fieldAt s (a.eval x) n)):Sem Next).run P w) v st':=by
 have hr:=zaq hx hs;obtain⟨i,hi,hsz⟩:∃ i,P.info? fd.type=some i/\i.size≠0:=by
  simp only[tsz,Program.cellsOf]at h3;cases hi:P.info? fd.type with
  | none=>simp[hi]at h3
  | some i=>simp[hi]at h3;exact⟨i,rfl,by omega⟩
 have hrun:∀ b o,(Instr.fieldAt s (.pointer (some ⟨b,o,none⟩)) n).run P w=.ok (.pointer (some ⟨b,o+fd.offset,none⟩)) w:=by intro b o;simp[Instr.fieldAt,run_underlying h1,h2,Instr.sureAddr,fieldPlace,sizeOf,typeInfo,hi,hsz,zck]
 generalize a.eval x=X at hr ⊢;simp only[eff]at he;split at he
 ·rename_i s' g ix o hev;rw[hev]at hr;split at he
  ·rename_i ob ho;simp only[yf3,yf5]at he;obtain⟨rfl,rfl⟩:=he;obtain⟨b,e2,rfl⟩:=zed hr ho;exact zap (hrun b _) hs (by rw[yhh];exact .ptr _ _ _ _ ob b ho e2)
  ·cases he
 ·rename_i pv vsz o hev;rw[hev]at hr;simp only[yf3,yf5]at he;obtain⟨rfl,rfl⟩:=he;cases hr with
  | cp _ _ _ b ob cur T fr vals m0 m1 m2 m3 m4 m5=>exact zap (hrun b _) hs (by rw[yhh];exact .cp _ _ _ b ob cur T fr vals m0 m1 m2 m3 m4 m5)
 ·cases he
end
section
variable {P:Program} {K:Ctx} {Z Z':Cz} {st st':St} {w w':World} {a:Act} {orc:Option PCall} {d:Nat} {v:AV}
theorem zr4{x:Operand}{y:Opd}{i:Nat}(hx:zag x=some y)(hs:StRep K Z st w a)(he:eff orc st d (.extract y i)=some (v,st')) :
  Good P K Z st ((do pure (Next.value (<- Instr.extract (a.eval x) i)):Sem Next).run P w) v st':=by
 have hr:=zaq hx hs;generalize a.eval x=X at hr ⊢;simp only[eff]at he;split at he
 ·rename_i vs hev;rw[hev]at hr;split at he
  ·rename_i u hu;simp only[yf3,yf5]at he;obtain⟨rfl,rfl⟩:=he;cases hr with
   | tup _ vals h =>
    obtain⟨z,hz,hzr⟩:=h.get i u hu;exact zap (by simp[Instr.extract,hz]) hs hzr
  ·cases he
 ·rename_i vs hev;rw[hev]at hr;split at he
  ·rename_i u hu;simp only[yf3,yf5]at he;obtain⟨rfl,rfl⟩:=he;have hp:=hr.inv_p;cases hp with
   | tup _ vals h =>
    obtain⟨z,hz,hzr⟩:=h.get i u hu;exact zap (by simp[Instr.extract,hz]) hs (.p _ _ hzr)
  ·cases he
 ·cases he
theorem zs6{t:TypeId}{sz off:Nat}{ag:Bool}{u r:AV}{cells:List AV}{X:Value}(ht:tok P t sz ag=true)(hr:ARep Z st u X)(hc:u.acells=some cells)(hu:segL cells off sz ag=some r) :
  ∃ cs y,X=.agg cs/\(part t cs off).run P w=.ok y w/\ARep Z st r y:=by
 obtain⟨i,d,hi,hsz,hd,hda,hag,hna⟩:=zhy ht;obtain⟨vals,hX,hrs,h1⟩:∃ vals,X=.agg (vals:List Value).toArray/\AReps Z st cells vals/\∀ c∈cells,c.one=true:=by
  unfold AV.acells at hc;split at hc
  ·cases hc;cases hr.inv_p with
   | agg cs vals h1 h2=>exact⟨vals,rfl,AReps.of_p h2,fun c hc=>by simp at hc;obtain⟨q,hq,rfl⟩:=hc;exact h1 q hq⟩
  ·cases hc;cases hr with
   | agg cs vals h1 h2=>exact⟨vals,rfl,h2,h1⟩
  ·cases hc
 subst hX;refine⟨vals.toArray,?_⟩;cases ag with
 | true =>
  simp only[segL,yf2]at hu;split at hu
  ·rename_i hl;cases hu;refine⟨.agg ((vals.drop off).take sz).toArray,rfl,?_,ARep.mkAgg (fun c hc=>h1 c (yga (ygb hc))) ((hrs.drop off).take sz)⟩;simp[part,zgb w hd,hda,sizeOf,typeInfo,hi,hsz]
  ·cases hu
 | false =>
  have:=hna rfl;subst this;simp only[segL,if_true,Bool.false_eq_true,if_false]at hu;have hg:cells[off]?=some r:=by rw[List.head?_eq_getElem?,List.getElem?_take]at hu;simpa using hu
  obtain⟨y,hy,hyr⟩:=hrs.get off r hg;exact⟨y,rfl,by simp[part,zgb w hd,hda,hy],hyr⟩
theorem zzh{s:TypeId}{fs:Array Field}{n:Nat}{fd:Field}{x:Operand}{y:Opd}(h1:P.underlying s=some (.struct fs))(h2:fs[n]?=some fd)
  (ht:tok P fd.type (tsz P fd.type) (tagg P fd.type)=true) (hx:zag x=some y) (hs:StRep K Z st w a) (he:eff orc st d (.field fd.offset (tsz P fd.type) (tagg P fd.type) y)=some (v,st')) :
  Good P K Z st ((do pure (Next.value (<- Instr.field s (a.eval x) n)):Sem Next).run P w) v st':=by
 have hr:=zaq hx hs;generalize a.eval x=X at hr ⊢;simp only[eff]at he;split at he
 ·rename_i cs hcs;split at he
  ·rename_i u hu;simp only[yf3,yf5]at he;obtain⟨rfl,rfl⟩:=he;obtain⟨cells,z,rfl,hz,hzr⟩:=zs6 (P:=P) (w:=w) ht hr hcs hu;exact zap (by simp[Instr.field,run_underlying h1,h2,asAgg,hz]) hs hzr
  ·cases he
 ·cases he
theorem z7i{t e:TypeId}{n:Nat}{x i:Operand}{y j:Opd}(h1:P.underlying t=some (.array n e))
  (ht:tok P e (tsz P e) (tagg P e)=true) (hx:zag x=some y) (hi:zag i=some j) (hs:StRep K Z st w a) (he:eff orc st d (.idx n (tsz P e) (tagg P e) y j)=some (v,st')) :
  Good P K Z st ((do pure (Next.value (<- Instr.index t (a.eval x) (a.eval i))):Sem Next).run P w) v st':=by
 have hr:=zaq hx hs;have hri:=zaq hi hs;obtain⟨inf,_,hinf,hisz,_⟩:=zhy ht;generalize a.eval x=X at hr ⊢;generalize a.eval i=I at hri ⊢;simp only[eff]at he;split at he
 ·rename_i m hm;split at he
  ·rename_i hlt;split at he
   ·rename_i cs hcs;split at he
    ·rename_i u hu;simp only[yf3,yf5]at he;obtain⟨rfl,rfl⟩:=he;obtain⟨k,hk⟩:=zbt hm;rw[hk]at hri;rw[hri.inv_int];obtain⟨cells,z,rfl,hz,hzr⟩:=zs6 (P:=P) (w:=w) ht hr hcs hu;have hc:(0:Int)<=(m:Int)/\(m:Int)<(n:Int):=by omega
     exact zap (by simp[Instr.index,run_underlying h1,asIntOf,hlt,sizeOf,typeInfo,hinf,hisz,hz]) hs hzr
    ·cases he
   ·cases he
  ·cases he
 ·cases he
theorem zzg{t e:TypeId}{x i:Operand}{y j:Opd}(h1:P.underlying t=some (.slice e))(hinf:(P.info? e).isSome=true)
  (hx:zag x=some y) (hi:zag i=some j) (hs:StRep K Z st w a) (he:eff orc st d (.iaddr (tsz P e) y j)=some (v,st')) :
  Good P K Z st ((do pure (Next.value (<- Instr.indexAt t (a.eval x) (a.eval i))):Sem Next).run P w) v st':=by
 have hr:=zaq hx hs;have hri:=zaq hi hs;obtain⟨inf,hinf⟩:=yhy.1 hinf;have hisz:inf.size=tsz P e:=by simp[tsz,Program.cellsOf,hinf]
 generalize tsz P e=sz at *
 generalize a.eval x=X at hr ⊢;generalize a.eval i=I at hri ⊢;have hrun:∀ (k:IntKind) (m:Nat) (b o len c:Nat),m<len->(Instr.indexAt t (.slice (some ⟨b,o,none⟩) len c) (.int k m)).run P w=.ok (.pointer (some ⟨b,o+m*sz,none⟩)) w:=by intro k m b o len c hlt;simp[Instr.indexAt,run_underlying h1,asIntOf,hlt,sizeOf,typeInfo,hinf,hisz,zck]
 simp only[eff]at he;split at he
 ·rename_i m es hm hev;obtain⟨k,hk⟩:=zbt hm;rw[hk]at hri;rw[hri.inv_int];rw[hev]at hr;split at he
  ·rename_i e' hel;split at he
   ·rename_i hsz;simp only[yf3,yf5]at he;obtain⟨rfl,rfl⟩:=he;have hem:=yhi hel;cases hr.inv_p with
    | sl0=>simp at hel
    | sl _ b o cap cur T fr sz' vals m0 m1 m2 m3 m4 m5 m6 =>
     have hlt:=(yh6.1 hel).1;have hszeq:sz'=sz:=by rw[<- m2 e' hem];exact hsz.1
     subst hszeq;have hes:∀ q∈es,(PV.cells q).length=sz':=fun q hq=>by rw[PV.cells_len (by rw[m2 q hq];exact m1),m2 q hq]
     have hseg:=zh7 PV.cells sz' es m e' hes hel;refine zap (hrun k m b o _ cap hlt) hs ?_
     have:=ARep.cp (Z:=Z) (st:=st) e' sz' 0 b (o+m*sz') cur T fr ((vals.drop (m*sz')).take sz') m0 m1 hsz.1
      (fun c hc=>m3 c (yg3.2 ⟨e',hem,hc⟩)) (by rw[<- hseg];exact(m4.drop _).take _)
      (fun q z hq=>by
       rw[yit]at hq;split at hq
       ·rw[yic]at hq;rw[yhh];exact m5 _ _ hq
       ·cases hq)
     simpa using this
   ·cases he
  ·cases he
 ·rename_i m s g off len hm hev;obtain⟨k,hk⟩:=zbt hm;rw[hk]at hri;rw[hri.inv_int];rw[hev]at hr;split at he
  ·rename_i o ho;split at he
   ·rename_i hc;simp only[yf3,yf5]at he;obtain⟨rfl,rfl⟩:=he;cases hr with
    | own0=>omega
    | own _ _ _ _ o' b ad c e1 e2 e3 e4 e5 e6 =>
     rw[ho]at e1;cases e1;have had:=e4 (by omega);subst had;refine zap (hrun k m b _ len c hc.1) hs ?_;have:=ARep.ptr (Z:=Z) (st:=st) s g (off+m) 0 o b ho e2;rw[<- hc.2.2];simpa[Nat.add_mul]using this
    | ownD _ _ _ _ _ _ _ e2=>exact(za4 ho e2).elim
   ·cases he
  ·cases he
 ·cases he
theorem zvk{t e:TypeId}{n:Nat}{x i:Operand}{y j:Opd}(h1:P.underlying t=some (.array n e))(hinf:(P.info? e).isSome=true)
  (hx:zag x=some y) (hi:zag i=some j) (hs:StRep K Z st w a) (he:eff orc st d (.iaddrA n (tsz P e) y j)=some (v,st')) :
  Good P K Z st ((do pure (Next.value (<- Instr.indexAt t (a.eval x) (a.eval i))):Sem Next).run P w) v st':=by
 have hr:=zaq hx hs;have hri:=zaq hi hs;obtain⟨inf,hinf⟩:=yhy.1 hinf;have hisz:inf.size=tsz P e:=by simp[tsz,Program.cellsOf,hinf]
 generalize tsz P e=sz at *
 generalize a.eval x=X at hr ⊢;generalize a.eval i=I at hri ⊢;have hrun:∀ (k:IntKind) (m:Nat) (b o:Nat),m<n->(Instr.indexAt t (.pointer (some ⟨b,o,none⟩)) (.int k m)).run P w=.ok (.pointer (some ⟨b,o+m*sz,none⟩)) w:=by intro k m b o hlt;simp[Instr.indexAt,run_underlying h1,asIntOf,hlt,sizeOf,typeInfo,hinf,hisz,zck,Instr.sureAddr]
 simp only[eff]at he;split at he
 ·rename_i m s g ix o hm hev;obtain⟨k,hk⟩:=zbt hm;rw[hk]at hri;rw[hri.inv_int];rw[hev]at hr;split at he
  ·rename_i ob ho;split at he
   ·rename_i hlt;simp only[yf3,yf5]at he;obtain⟨rfl,rfl⟩:=he;obtain⟨b,e2,rfl⟩:=zed hr ho;exact zap (hrun k m b _ hlt) hs (by rw[yhh];exact .ptr _ _ _ _ ob b ho e2)
   ·cases he
  ·cases he
 ·rename_i m pv vsz o hm hev;obtain⟨k,hk⟩:=zbt hm;rw[hk]at hri;rw[hri.inv_int];rw[hev]at hr;split at he
  ·rename_i hlt;simp only[yf3,yf5]at he;obtain⟨rfl,rfl⟩:=he;cases hr with
   | cp _ _ _ b ob cur T fr vals m0 m1 m2 m3 m4 m5=>exact zap (hrun k m b _ hlt) hs (by rw[yhh];exact .cp _ _ _ b ob cur T fr vals m0 m1 m2 m3 m4 m5)
  ·cases he
 ·cases he
theorem z7h{args:Array TypeId}{ty:TypeId}{x:Operand}{y:Opd}(ht:zcm (args[0]?.bind P.underlying)=true)(hx:zag x=some y)(hs:StRep K Z st w a)(he:eff orc st d (.len y)=some (v,st')) :
  Good P K Z st ((do pure (Next.value (<- Builtin.len_ args ty #[a.eval x])):Sem Next).run P w) v st':=by
 have hr:=zaq hx hs;obtain⟨t,e,ht0,htu⟩:∃ t e,args[0]?=some t/\P.underlying t=some (.slice e):=by
  cases h0:args[0]? with
  | none=>simp[h0,zcm]at ht
  | some t =>
   cases hu:P.underlying t with
   | none=>simp[h0,hu,zcm]at ht
   | some d=>cases d<;>simp[h0,hu,zcm]at ht;exact⟨t,_,rfl,hu⟩
 have hrun:∀ ad n c,(Builtin.len_ args ty #[.slice ad n c]).run P w=.ok (.int .i64 n) w:=by intro ad n c;simp[Builtin.len_,ht0,run_underlying htu,goInt]
 generalize a.eval x=X at hr ⊢;simp only[eff]at he;split at he
 ·rename_i es hev;rw[hev]at hr;simp only[yf3,yf5]at he;obtain⟨rfl,rfl⟩:=he;cases hr.inv_p with
  | sl0 ad cap=>exact zap (hrun _ _ _) hs (.p _ _ (.int _ _))
  | sl _ b o cap cur T fr sz' vals m0 m1 m2 m3 m4 m5 m6=>exact zap (hrun _ _ _) hs (.p _ _ (.int _ _))
 ·rename_i hev;rw[hev]at hr;simp only[yf3,yf5]at he;obtain⟨rfl,rfl⟩:=he;cases hr;exact zap (hrun _ _ _) hs (.p _ _ (.int _ _))
 ·rename_i s g off len hev;rw[hev]at hr;simp only[yf3,yf5]at he;obtain⟨rfl,rfl⟩:=he;cases hr with
  | own0=>exact zap (hrun _ _ _) hs (.p _ _ (.int _ _))
  | own=>exact zap (hrun _ _ _) hs (.p _ _ (.int _ _))
  | ownD=>exact zap (hrun _ _ _) hs (.p _ _ (.int _ _))
 ·cases he
end
section
variable {P:Program} {K:Ctx} {Z Z':Cz} {st st':St} {w w':World} {a:Act} {orc:Option PCall} {d:Nat} {v:AV}
theorem zgo{α β : Type}(f : α -> List β)(sz:Nat):∀ (es:List α) (n:Nat),(∀ e∈es,(f e).length=sz)->(es.take n).flatMap f=(es.flatMap f).take (n*sz)
 | [],n,_=>by simp
 | x::es,0,_=>by simp
 | x::es,n+1,h=>by have hx:=h x (by simp);rw[yjc,yft,yft,zgo f sz es n (fun y hy=>h y (by simp[hy])),ygt,List.take_append,yfw (l:=f x) (by omega),hx,yib]
theorem zgp{α β : Type}(f : α -> List β)(sz:Nat):∀ (es:List α) (n:Nat),(∀ e∈es,(f e).length=sz)->(es.drop n).flatMap f=(es.flatMap f).drop (n*sz)
 | [],n,_=>by simp
 | x::es,0,_=>by simp
 | x::es,n+1,h=>by have hx:=h x (by simp);rw[yjd,yft,zgp f sz es n (fun y hy=>h y (by simp[hy])),ygt,List.drop_append,yhf (l:=f x) (by omega),hx,yib,yh7]
theorem zvj{u:AV}{X:Value}{xs:List AV}{sz:Nat}(he:st.elems u=some xs)(hr:ARep Z st u X)(hh:HRep K Z st w)(hsz:∀ e∈xs,e.sz=sz)(hp:0<sz) :
  ∃ ad c vals,X=.slice ad xs.length c/\AReps Z st (xs.flatMap AV.cells) vals/\(∀ q∈xs.flatMap AV.cells,q.one=true)/\vals.length=xs.length*sz /\
   ∀ w':World,w'.heap=w.heap->(Builtin.firstCells sz xs.length X).run P w'=.ok vals.toArray w':=by
 have hcl:∀ e∈xs,(AV.cells e).length=sz:=fun e he=>by rw[AV.cells_len (by rw[hsz e he];exact hp),hsz e he]
 unfold St.elems at he;split at he
 ·rename_i es;cases he;cases hr.inv_p with
  | sl0 ad cap =>
   refine⟨ad,cap,[],by simp,by simpa using AReps.nil,by simp,by simp,fun w' hw=>?_⟩;cases ad with
   | none=>simp[Builtin.firstCells]
   | some ad=>exact run_firstCells_some w' sz 0 ad 0 cap [] (by simp) (by simp)
  | sl _ b o cap cur T fr sz' vals m0 m1 m2 m3 m4 m5 m6 m7 =>
   have hl:=m4.length;have hlen:vals.length=es.length*sz:=by have h1:=zdd AV.cells sz _ hcl;rw[zal,yig,yig]at h1;rw[hl];exact h1
   refine⟨some ⟨b,o,none⟩,cap,vals,by simp,by rw[zal];exact AReps.of_p m4,?_,by simpa using hlen,fun w' hw=>?_⟩
   ·rw[zal];intro q hq;simp only[yf6]at hq;obtain⟨r,hr',rfl⟩:=hq;exact m3 r hr'
   ·refine run_firstCells_some w' sz _ ⟨b,o,none⟩ _ cap vals (by simpa using hlen) (fun j y hy=>?_);rw[zck,cell_of_row w' b _ cur T fr (by rw[hw];exact hh.mem b _ m0)];exact m5 j y hy
 ·cases he;cases hr;exact⟨none,0,[],rfl,by simpa using AReps.nil,by simp,by simp,fun w' _=>by simp[Builtin.firstCells]⟩
 ·cases he;cases hr.inv_p with
  | nl cap=>exact⟨none,cap,[],rfl,by simpa using AReps.nil,by simp,by simp,fun w' _=>by simp[Builtin.firstCells]⟩
 ·cases he;cases hr.inv_p with
  | sle ad cap=>exact⟨some ad,cap,[],rfl,by simpa using AReps.nil,by simp,by simp,fun w' hw=>run_firstCells_some w' sz 0 ad 0 cap [] (by simp) (by simp)⟩
 ·rename_i s g off len;split at he
  ·rename_i o ho;split at he
   ·rename_i hle;cases he;have hO:=hh.objs s g o ho;have hxl:((o.es.drop off).take len).length=len:=by simp;omega
    cases hr with
    | own0 =>
     rw[hxl];exact⟨none,0,[],rfl,by simpa using AReps.nil,by simp,by simp,fun w' _=>by simp[Builtin.firstCells]⟩
    | own _ _ _ _ o' b ad c e1 e2 e3 e4 e5 e6 =>
     rw[ho]at e1;cases e1;obtain⟨cur,T,vals,k1,k2,k3,k4,k5,k6⟩:=hO.blk b e2;have hes:∀ e∈o.es,(AV.cells e).length=o.sz:=fun e he=>by rw[AV.cells_len (by rw[hO.els e he];exact hO.pos),hO.els e he]
     by_cases h0:len=0
     ·subst h0;refine⟨some ad,c,[],by simp,by simpa using AReps.nil,by simp,by simp,fun w' _=>?_⟩;simpa using run_firstCells_some (P:=P) w' sz 0 ad 0 c [] (by simp) (by simp)
     ·have had:=e4 (by omega);subst had;have hszo:sz=o.sz:=by
       have hne:(o.es.drop off).take len≠[]:=by intro h;rw[h]at hxl;simp at hxl;omega
       obtain⟨q,hq⟩:=List.exists_mem_of_ne_nil _ hne;rw[<- hsz q hq];exact hO.els q (yga (ygb hq))
      subst hszo;have hfl:((o.es.drop off).take len).flatMap AV.cells=((o.es.flatMap AV.cells).drop (off*o.sz)).take (len*o.sz):=by rw[zgo AV.cells o.sz _ len (fun e he=>hes e (yga he)),zgp AV.cells o.sz _ off hes]
      have hvl:=k2.length;rw[zdd AV.cells o.sz _ hes]at hvl;have hle2:off*o.sz+len*o.sz<=vals.length:=by rw[hvl,<- Nat.add_mul];exact yg7 _ hle
      refine⟨some ⟨b,off*o.sz,none⟩,c,(vals.drop (off*o.sz)).take (len*o.sz),by rw[hxl],by rw[hfl];exact(k2.drop _).take _,?_,by rw[hxl];simp;omega,fun w' hw=>?_⟩
      ·rw[hfl];intro q hq;exact hO.one q (yga (ygb hq))
      ·rw[hxl];refine run_firstCells_some w' o.sz len ⟨b,off*o.sz,none⟩ len c _ (by simp;omega) (fun j y hy=>?_);rw[zck,cell_of_row w' b _ cur T (0,0) (by rw[hw];exact k1)];rw[yit]at hy;split at hy
       ·rw[yic]at hy;exact k3 _ _ hy
       ·cases hy
    | ownD _ _ _ _ _ _ _ e2=>exact(za4 ho e2).elim
   ·cases he
  ·cases he
 ·cases he
theorem zs9{c:AV}(h:c.one=true):c.pur1.one=true:=by cases c<;>first|rfl|exact h
theorem z1g{c:AV}{x:Value}(h:ARep Z st c x):ARep Z st c.pur1 x:=by
 cases c<;>first|exact h|skip
 cases h;exact .p _ _ (.sl0 none 0)
theorem zkr:∀ {cs:List AV} {xs:List Value},AReps Z st cs xs->AReps Z st (cs.map AV.pur1) xs
 | _,_,.nil=>.nil
 | _,_,.cons _ _ _ _ h hs=>.cons _ _ _ _ (z1g h) (zkr hs)
theorem zzx(v:AV):v.pur.cells=v.cells.map AV.pur1:=by
 cases v with
 | agg cs=>exact zlz _
 | p v=>simp only[AV.pur,AV.cells_p,yhl];congr 1
 | _=>rfl
theorem zf1(v:AV):v.pur.sz=v.sz:=by
 cases v with
 | agg cs=>show(mkAgg _).sz=_;rw[zsw,yig];rfl
 | _=>rfl
theorem zks{v:AV}{x:Value}(h:ARep Z st v x):ARep Z st v.pur x:=by
 cases v with
 | agg cs =>
  cases h with
  | agg _ vals h1 h2=>exact ARep.mkAgg (fun c hc=>by simp at hc;obtain⟨q,hq,rfl⟩:=hc;exact zs9 (h1 q hq)) (zkr h2)
 | nil=>cases h;exact .p _ _ (.sl0 none 0)
 | _=>exact h
theorem zua(xs:List AV):(xs.map AV.pur).flatMap AV.cells=(xs.flatMap AV.cells).map AV.pur1:=by
 induction xs with
 | nil=>rfl
 | cons x xs ih=>simp[yfq,ih,zzx]
theorem zzc{t e:TypeId}{x:Operand}{y:Opd}{lo hi:Option Operand}{lo' hi':Option Opd}(h1:P.underlying t=some (.slice e))(hinf:(P.info? e).isSome=true)
  (hx:zag x=some y) (hlo:(lo=none/\lo'=none)\/∃ l l',lo=some l/\lo'=some l'/\zag l=some l') (hhi:(hi=none/\hi'=none)\/∃ l l',hi=some l/\hi'=some l'/\zag l=some l')
  (hs:StRep K Z st w a) (he:eff orc st d (.slice (tsz P e) y lo' hi')=some (v,st')) :
  Good P K Z st ((do pure (Next.value (<- Instr.sliceAt t (a.eval x) (lo.map a.eval) (hi.map a.eval) none)):Sem Next).run P w) v st':=by
 have hr:=zaq hx hs;obtain⟨inf,hinf⟩:=yhy.1 hinf;have hisz:inf.size=tsz P e:=by simp[tsz,Program.cellsOf,hinf]
 generalize tsz P e=sz at *
 generalize a.eval x=X at hr ⊢;have hloS:∀ n,zdk st lo' 0=some n->(lo.map a.eval=none/\n=0)\/∃ k,lo.map a.eval=some (.int k (n:Int)):=by
  intro n hn;rcases hlo with⟨rfl,rfl⟩|⟨l,l',rfl,rfl,hl⟩
  ·simp[zdk]at hn;exact .inl ⟨rfl,hn.symm⟩
  ·obtain⟨k,hk⟩:=zbt hn;have:=zaq hl hs;rw[hk]at this;exact .inr ⟨k,by simp[this.inv_int]⟩
 have hhiS:∀ len n,zdk st hi' len=some n->(hi.map a.eval=none/\n=len)\/∃ k,hi.map a.eval=some (.int k (n:Int)):=by
  intro len n hn;rcases hhi with⟨rfl,rfl⟩|⟨l,l',rfl,rfl,hl⟩
  ·simp[zdk]at hn;exact .inl ⟨rfl,hn.symm⟩
  ·obtain⟨k,hk⟩:=zbt hn;have:=zaq hl hs;rw[hk]at this;exact .inr ⟨k,by simp[this.inv_int]⟩
 have hrun:∀ (ad:Option Addr) (len c l h:Nat),((lo.map a.eval=none/\l=0)\/∃ k,lo.map a.eval=some (.int k (l:Int)))->((hi.map a.eval=none/\h=len)\/∃ k,hi.map a.eval=some (.int k (h:Int))) ->
   l<=h->h<=len->len<=c->(Instr.sliceAt t (.slice ad len c) (lo.map a.eval) (hi.map a.eval) none).run P w=.ok (.slice (if c=l then ad else ad.map (·.add (l*sz))) (h - l) (c - l)) w:=by
  intro ad len c l h hl hh hlh hhl hlc;have c1:(l:Int)<=(h:Int):=by omega
  have c2:(h:Int)<=(c:Int):=by omega
  rcases hl with⟨el,rfl⟩|⟨kl,el⟩<;>rcases hh with⟨eh,rfl⟩|⟨kh,eh⟩ <;>
   simp[Instr.sliceAt,Instr.slice,run_underlying h1,Instr.sliceBounds,Instr.sliceBound,asIntOf,el,eh,sizeOf,typeInfo,hinf,hisz,hlh]<;>omega
 simp only[eff]at he;split at he
 ·rename_i l es hlo2 hev;rw[hev]at hr;split at he
  ·rename_i h hhi2;split at he
   ·rename_i hc;simp only[yf3,yf5]at he;obtain⟨rfl,rfl⟩:=he;have hL:=hloS l hlo2;have hH:=hhiS _ h hhi2;cases hr.inv_p with
    | sl0 ad cap =>
     simp at hc;obtain⟨rfl,rfl⟩:l=0/\h=0:=by omega
     refine zap (hrun ad 0 cap 0 0 hL (by simpa using hH) (by omega) (by omega) (by omega)) hs ?_;simp only[List.drop_nil,List.take_nil];exact .p _ _ (.sl0 _ _)
    | sl _ b o cap cur T fr sz' vals m0 m1 m2 m3 m4 m5 m6 m7 =>
     refine zap (hrun _ _ cap l h hL hH hc.1 hc.2.1 m6) hs ?_;have hcl:∀ e∈es,(PV.cells e).length=sz':=fun e he=>by rw[PV.cells_len (by rw[m2 e he];exact m1),m2 e he]
     have hln:((es.drop l).take (h - l)).length=h - l:=by simp;omega
     by_cases h0:h - l=0
     ·rw[h0,List.take_zero];exact .p _ _ (.sl0 _ _)
     ·have hne:cap≠l:=by omega
      have hszz:sz'=sz:=by
       have hne2:es≠[]:=by rintro rfl;simp at hc;omega
       obtain⟨q,hq⟩:=List.exists_mem_of_ne_nil _ hne2;have:=List.all_eq_true.1 hc.2.2.1 q hq;rw[<- m2 q hq];simpa using this
      subst hszz;rw[yf0 hne];have hfl:((es.drop l).take (h - l)).flatMap PV.cells=((es.flatMap PV.cells).drop (l*sz')).take ((h - l)*sz'):=by rw[zgo PV.cells sz' _ _ (fun e he=>hcl e (yga he)),zgp PV.cells sz' _ l hcl]
      have:=PRep.sl (M:=Z.M) ((es.drop l).take (h - l)) b (o+l*sz') (cap - l) cur T fr sz' ((vals.drop (l*sz')).take ((h - l)*sz')) m0 m1
       (fun e he=>m2 e (yga (ygb he)))
       (fun c hc=>by rw[hfl]at hc;exact m3 c (yga (ygb hc)))
       (by rw[hfl];exact(m4.drop _).take _)
       (fun i y hy=>by
        rw[yit]at hy;split at hy
        ·rw[yic]at hy;rw[yhh];exact m5 _ _ hy
        ·cases hy)
       (by rw[hln];omega) (by rw[hln];omega)
      rw[hln]at this;simpa only[Option.map_some,zck]using ARep.p _ _ this
   ·cases he
  ·cases he
 ·rename_i l s g off len hlo2 hev;rw[hev]at hr;split at he
  ·rename_i h hhi2;split at he
   ·rename_i ob ho;split at he
    ·rename_i hc;simp only[yf3,yf5]at he;obtain⟨rfl,rfl⟩:=he;have hL:=hloS l hlo2;have hH:=hhiS _ h hhi2;cases hr with
     | own0 _ _ o' e1 e2 =>
      obtain⟨rfl,rfl⟩:l=0/\h=0:=by omega
      refine zap (hrun none 0 0 0 0 hL hH (by omega) (by omega) (by omega)) hs ?_;simpa using ARep.own0 s g o' e1 e2
     | own _ _ _ _ o' b ad c e1 e2 e3 e4 e5 e6 =>
      rw[ho]at e1;cases e1;refine zap (hrun _ _ c l h hL hH hc.1 hc.2.1 e6) hs ?_;have hcond:∀ ad',ad'=(if c=l then ad else ad.add (l*sz))->ARep Z st (.own s g (off+l) (h - l)) (.slice (some ad') (h - l) (c - l)):=by
       intro ad' had';refine .own s g (off+l) (h - l) ob b ad' (c - l) ho e2 (fun hz=>?_) (fun hpos=>?_) (by omega) (by omega)
       ·obtain⟨rfl,rfl⟩:off=0/\l=0:=by omega
        obtain⟨f1,f2⟩:=e3 rfl;refine⟨?_,by omega⟩;rw[had',f1];split
        ·rfl
        ·simp[zck]
       ·have hne:c≠l:=by omega
        rw[had',yf0 hne,e4 (by omega),zck,hc.2.2.2,ygf]
      have:=hcond _ rfl;by_cases hcl:c=l
      ·simpa[hcl]using this
      ·simpa[hcl]using this
     | ownD _ _ _ _ _ _ _ e2=>exact(za4 ho e2).elim
    ·cases he
   ·cases he
  ·cases he
 ·rename_i l hlo2 hev;rw[hev]at hr;split at he
  ·rename_i h hhi2;split at he
   ·rename_i hc;simp only[Option.some.injEq,Prod.mk.injEq]at he;obtain⟨rfl,rfl⟩:=he;obtain⟨rfl,rfl⟩:=hc;have hL:=hloS 0 hlo2;have hH:=hhiS 0 0 hhi2;cases hr;refine zap (hrun none 0 0 0 0 hL hH (by omega) (by omega) (by omega)) hs ?_;simpa using ARep.nil
   ·cases he
  ·cases he
 ·cases he
end
end Go.Ab
