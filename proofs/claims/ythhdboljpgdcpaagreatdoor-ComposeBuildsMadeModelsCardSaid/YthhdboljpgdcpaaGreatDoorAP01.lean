/- Lemmas for the law ComposeBuildsMadeModels, part 1. No conditions. -/
import Derived.Test.YthhdboljpgdcpaaGreatDoorAP00
import Derived.DeepKeys4
import Derived.Laws.StructEq
set_option maxRecDepth 100000
set_option maxHeartbeats 4000000
set_option linter.all false
namespace Go.Ab
def AV.bS{v:AV}(h:0<v.sz):v.cells.length=v.sz:=by
 obtain b|⟨cs,rfl,b⟩|⟨cs,rfl,b⟩:=AV.eA h
 .rw[(AV.cells_one b).1,(AV.cells_one b).2];rfl
 .simp[AV.cells,AV.sz];omega
 .simp[AV.cells,AV.sz,PV.sz];omega
def PV.bS{v:PV}(h:0<v.sz):v.cells.length=v.sz:=by
 obtain b|⟨cs,rfl,b⟩:=PV.eA h
 .rw[(PV.cells_one b).1,(PV.cells_one b).2];rfl
 .simp[PV.cells,PV.sz];omega
def AV.oM(v:PV):(AV.p v).cells=v.cells.map .p:=by cases v<;>rfl
theorem AV.Mw(v:PV):(AV.p v).sz=v.sz:=rfl
theorem qT(es:List PV):(es.map AV.p).flatMap AV.cells=(es.flatMap PV.cells).map .p:=by
 induction es with
 | nil=>rfl
 | cons e es b=>simp only[jH,jG,qY,b,AV.oM]
theorem xo{α β : Type}(f : α -> List β)(sz:Nat):∀ (es:List α),(∀ e∈es,(f e).length=sz)->(es.flatMap f).length=es.length*sz
 | [],_=>by simp
 | e::es,h=>by rw[jG,gL,h e (by simp),xo f sz es (λx b=>h x (by simp[b])),pQ,yL];omega
theorem EO{α β : Type}(f : α -> List β)(sz:Nat):∀ (es:List α) (i:Nat) (e : α),(∀ e∈es,(f e).length=sz)->es[i]?=some e->((es.flatMap f).drop (i*sz)).take sz=f e
 | [],_,_,_,h=>by simp at h
 | x::es,0,e,h,b=>by
  simp at b;subst b;rw[Iv,yJ,jG,D0 (by rw[h x (by simp)];exact dK _),fK (by rw[h x (by simp)];exact dK _)]
 | x::es,i+1,e,h,b=>by have j:=h x (by simp);rw[List.flatMap_cons,Nat.succ_mul,List.drop_append,List.drop_of_length_le (by omega),List.nil_append,j,Nat.add_sub_cancel];exact EO f sz es i e (λy k=>h y (by simp[k])) (by simpa using b)
def Jz{α β : Type}(f : α -> List β)(sz:Nat)(es:List α)(b:Nat)(e : α)(h:∀ e∈es,(f e).length=sz)(i:es[b]?=some e):b*sz+sz<=(es.flatMap f).length:=by rw[xo f sz es h,<- Nat.succ_mul];exact kD _ (iR.1 i).1
theorem J0{α β : Type}(f : α -> List β)(sz:Nat):∀ (es:List α) (b:Nat) (e : α),(∀ e∈es,(f e).length=sz)->b<es.length ->
  (es.set b e).flatMap f=(es.flatMap f).take (b*sz)++f e++(es.flatMap f).drop (b*sz+sz)
 | [],_,_,_,h=>by simp at h
 | x::es,0,e,h,_=>by
  have i:=h x (by simp);simp only[FL,jG,Iv,Iu,uJ,qW];rw[FK (by omega),xr (by omega),uJ]
 | x::es,b+1,e,h,j=>by
  have i:=h x (by simp);have m:=J0 f sz es b e (λy k=>h y (by simp[k])) (by simpa using j);simp only[List.set_cons_succ,List.flatMap_cons,m,Nat.succ_mul]
  rw[List.take_append,fK (l:=f x) (by omega),List.drop_append,xr (l:=f x) (by omega),i,FJ,
   show b*sz+sz+sz - sz=b*sz+sz from by omega]
  simp[uK]
def LY{cur:Array Value}{vals:List Value}(h:∀ (i:Nat) (v:Value),vals[i]?=some v->cur[i]?=some v):∃ b,cur.toList=vals++b:=by
 refine⟨cur.toList.drop vals.length,?_⟩;apply DZ;intro i;by_cases f:i<vals.length
 .rw[List.getElem?_append_left f,List.getElem?_eq_getElem f];have:=h i _ (List.getElem?_eq_getElem f);simpa using this
 .rw[qC (by omega),Bj]
  congr 1;omega
def CJ{cur:List Value}{vals b:List Value}(h:cur=vals++b):∀ (i:Nat) (v:Value),vals[i]?=some v->cur.toArray[i]?=some v:=by intro i v f;subst h;have j:=(iR.1 f).1;simp only[List.getElem?_toArray];rw[wh j];exact f
section
variable {P:Program} {K:Ctx}
def vj(b o j:Nat):(⟨b,o,none⟩:Addr).add j=⟨b,o+j,none⟩:=by unfold Addr.add;split<;>simp_all
def ey(P:Program)(t:TypeId):Nat:=P.cellsOf t
def Jw:TypeDesc->Bool
 | .struct _ | .array _ _=>true
 | _=>false
def jI(P:Program)(t:TypeId):Bool :=
 match P.underlying t with
 | some d=>Jw d
 | _=>false
def tok(P:Program)(t:TypeId)(sz:Nat)(b:Bool):Bool :=
 (P.info? t).isSome&&(P.underlying t).isSome&&ey P t == sz&&jI P t == b&&(if b then 1<sz else sz == 1)
def EV{t:TypeId}{sz:Nat}{b:Bool}(h:tok P t sz b=true) :
  ∃ i d,P.info? t=some i/\i.size=sz/\P.underlying t=some d/\Jw d=b/\(b=true->1<sz)/\(b=false->sz=1):=by
 simp only[tok,Bool.and_eq_true,beq_iff_eq]at h;obtain⟨⟨⟨⟨l,m⟩,n⟩,o⟩,f⟩:=h;obtain⟨i,k⟩:=Option.isSome_iff_exists.1 l;obtain⟨d,j⟩:=Option.isSome_iff_exists.1 m;refine⟨i,d,k,by simpa[ey,Program.cellsOf,k]using n,j,?_,?_,?_⟩
 .rw[<- o];unfold jI;rw[j]
 .rintro rfl;simpa using f
 .rintro rfl;simpa using f
def E4{t:TypeId}{d:TypeDesc}(w:World)(hd:P.underlying t=some d):(isAgg t).run P w=.ok (Jw d) w:=by unfold isAgg;rw[mT,run_underlying hd w];cases d<;>rfl
def BB{Z:Cz}{st:St}{t:TypeId}{sz:Nat}{n:Bool}{w:World}{b o k:Nat}{cur:Array Value}{T:TypeId}{r:Nat × Nat}{cs:List AV}{vals:List Value}
  (G:tok P t sz n=true) (C:w.heap[b]?=some (.cells cur T r)) (z:aG Z st cs vals) (H:∀ (i:Nat) (v:Value),vals[i]?=some v->cur[o+i]?=some v) (J:k+sz<=cs.length) :
  ∃ xs,aG Z st ((cs.drop k).take sz) xs/\xs.length=sz/\(n=true->(loadVar t ⟨b,o+k,none⟩).run P w=.ok (.agg xs.toArray) w) /\
   (n=false->∃ x,xs=[x]/\(loadVar t ⟨b,o+k,none⟩).run P w=.ok x w):=by
 obtain⟨i,d,B,F,y,l,L,D⟩:=EV G;have E:=z.length;have f:∀ j v,((vals.drop k).take sz)[j]?=some v->w.cell? ((⟨b,o+k,none⟩:Addr).add j)=some v:=by
  intro j v m;rw[vj,cell_of_row w b _ cur T r C];rw[Bi]at m;split at m
  .rw[Bj]at m;rw[Ce];exact H _ _ m
  .cases m
 have h:((vals.drop k).take sz).length=sz:=by simp;omega
 refine⟨(vals.drop k).take sz,(z.drop k).take sz,h,λp=>?_,λp=>?_⟩
 .have s:=run_loadCells_list (P:=P) w ⟨b,o+k,none⟩ ((vals.drop k).take sz) f;rw[h]at s;subst p;simp[loadVar,E4 w y,l,sizeOf,typeInfo,B,F,s]
 .subst p;have A:=D rfl;subst A
  match I:(vals.drop k).take 1,h with
  | [x],_ =>
   refine⟨x,rfl,?_⟩;have u:=f 0 x (by rw[I];rfl);rw[vj,vB]at u;simp[loadVar,E4 w y,l,u]
def V3{t:TypeId}{sz:Nat}{w:World}{b o:Nat}{cur:Array Value}{T:TypeId}{x:Value}{i:TypeInfo}(k:P.info? t=some i)(hs:i.size=sz)(l:w.heap[b]?=some (.cells cur T (0,0)))
  (h:x.cells.size=sz) (m:o+sz<=cur.size) (j:∀ v∈x.cells.toList,v.oneCell'=true) :
  (storeVar t ⟨b,o,none⟩ x).run P w=.ok () (w.setRow b (cur.toList.take o++x.cells.toList++cur.toList.drop (o+sz)).toArray):=by
 have f:=run_storeCells_at P b o T x.cells.toList 0 cur w l (by simp;omega) j;simp only[vB,SR,h]at f;simp[storeVar,sizeOf,typeInfo,k,hs,h,f]
def Good(P:Program)(K:Ctx)(Z:Cz)(st:St)(r:Result Next)(v:AV)(st':St):Prop :=
 ∃ n x w' Z',r=.ok n w'/\(n=.value x\/(n=.skip/\x=Go.undef))/\bC K Z' st' w'/\aM Z' st' v x/\cO Z st Z' st'
def tR{Z:Cz}{st:St}{w:World}{v:AV}{x:Value}(h:bC K Z st w)(b:aM Z st v x):Good P K Z st (.ok (.value x) w) v st :=
 ⟨_,x,w,Z,rfl,.inl rfl,h,b,cO.refl Z st⟩
theorem aM.dE{Z:Cz}{st:St}{k:IntKind}{n:Int}{x:Value}(h:aM Z st (.p (.int k n)) x):x=.int k n:=by cases h with|p _ _ hp=>cases hp;rfl
theorem aM.fO{Z:Cz}{st:St}{b:Bool}{x:Value}(h:aM Z st (.p (.bool b)) x):x=.bool b:=by cases h with|p _ _ hp=>cases hp;rfl
def aM.cA{Z:Cz}{st:St}{v:PV}{x:Value}(h:aM Z st (.p v) x):PRep Z.M v x:=by cases h with|p _ _ hp=>exact hp
def xN{v:AV}{n:Nat}(h:vS v=some n):∃ k,v=.p (.int k (n:Int)):=by
 unfold vS at h;split at h
 .rename_i k m;split at h
  .cases h;refine⟨k,?_⟩;congr;omega
  .cases h
 .cases h
theorem HN{Z:Cz}{st:St}:∀ {vs:List AV} {xs:List Value},aG Z st vs xs->(∀ c∈vs,c.one=true)->∀ x∈xs,x.oneCell'=true
 | _,_,.nil,_=>by simp
 | _,_,.cons v x vs xs h j,f=>by
  intro y b;obtain rfl|b:=bY.1 b
  .exact h.gu (f v (by simp))
  .exact HN j (λc i=>f c (by simp[i])) y b
end
def Gj:Value->Option AV
 | .bool b=>some (.p (.bool b))
 | .int k n=>some (.p (.int k n))
 | .string s=>some (.p (.str s))
 | .slice none 0 0=>some .nil
 | .nilFunc=>some (.p .aK)
 | .map none=>some (.p .any)
 | .pointer none=>some (.p .any)
 | _=>none
def CI:List Value->Option (List AV)
 | []=>some []
 | v::r=>match Gj v,CI r with
  | some a,some b=>some (a::b)
  | _,_=>none
def Fv:Value->Option AV
 | .agg b=>(CI b.toList).map eJ
 | v=>Gj v
def dJ:Operand->Option bL
 | .tmp t=>some (.t t)
 | .const v=>(Fv v).map .c
 | .func f=>some (.c (.p (.fn f [])))
 | .global _=>none
def oP:List Operand->Option (List bL)
 | []=>some []
 | x::r=>match dJ x,oP r with
  | some a,some b=>some (a::b)
  | _,_=>none
def pY(P:Program)(t:TypeId):Option AV:=(P.info? t).bind λi=>i.zero.bind Fv
def AU:List (Nat × Nat)->List (Nat × Operand)->Option (List (Nat × Nat × bL))
 | _,[]=>some []
 | pl,(i,x)::r=>match pl[i]?,dJ x,AU pl r with
  | some (o,s),some y,some l=>some ((o,s,y)::l)
  | _,_,_=>none
def Dd:List (Nat × Operand)->Option (List (Nat × bL))
 | []=>some []
 | (i,x)::r=>match dJ x,Dd r with
  | some y,some l=>some ((i,y)::l)
  | _,_=>none
def AP(P:Program)(t:TypeId):Option (Option IntKind) :=
 match P.underlying t with
 | some (.int k)=>some (some k)
 | some .bool=>some none
 | _=>none
def Fc(P:Program):List Field->Nat->Option (List (Option IntKind))
 | [],_=>some []
 | f::b,j=>if f.name ≠ "_" /\ f.offset=j then match AP P f.type,Fc P b (j+1)with
  | some k,some l=>some (k::l)
  | _,_=>none
  else none
def KW(P:Program)(t:TypeId):Option (List (Option IntKind)) :=
 match P.underlying t with
 | some (.struct b)=>if P.stoodInHeld t=false/\P.eqGuardType P.depth t=false then Fc P b.toList 0 else none
 | some (.array n e)=>if (P.info? e).map (·.size)=some 1/\P.eqGuardType P.depth t=false then(AP P e).map (List.replicate n)else none
 | _=>none
def uE:Option TypeDesc->Bool
 | some (.slice _)=>true
 | _=>false
def BA(b:BinOp)(x y:bL):Option c7 :=
 match b,y with
 | .eql,.c .nil=>some (.iI false x)
 | .neq,.c .nil=>some (.iI true x)
 | _,_=>none
def Mr:Option TypeDesc->Bool
 | some (.int _)=>true
 | _=>false
def DL(P:Program):List Field->Nat->Option (List IntKind)
 | [],_=>some []
 | f::b,j=>match P.underlying f.type with
  | some (.int q)=>if f.name ≠ "_" /\ f.offset=j/\P.cellsOf f.type=1 then(DL P b (j+1)).map (q :: ·)else none
  | _=>none
def Er(P:Program)(kt:TypeId):Option (List IntKind) :=
 match P.underlying kt with
 | some (.array n e)=>match P.underlying e with
  | some (.int q)=>if P.cellsOf kt=n/\P.cellsOf e=1/\0<P.types.size then some (List.replicate n q)else none
  | _=>none
 | some (.struct b)=>if P.keyTypeAt 2 kt=true/\P.keyType kt=true/\P.tiled 2 kt=true/\P.cellsOf kt=b.size/\0<P.types.size then DL P b.toList 0 else none
 | _=>none
def BG(P:Program)(t:TypeId)(m k:Operand)(c:Bool):Option c7 :=
 match P.underlying t with
 | some (.map h f)=>(Er P h).bind λb=>(dJ m).bind λm=>(dJ k).bind λk=>(pY P f).map λz=>if c=true then .jW b z m k else .lW b z m k
 | _=>none
def C6(h:Fn)(first b:Array Operand):Option c7 :=
 match h with
 | .func f=>if first.size=0 then(oP b.toList).map λl=>.jK f l else none
 | _=>none
def HS:Option Operand->Option (Option bL)
 | none=>some none
 | some x=>(dJ x).map some
def De(P:Program)(t:TypeId)(x:Operand)(f b mx:Option Operand):Option c7 :=
 match mx with
 | some _=>none
 | none=>match P.underlying t with
  | some (.slice e)=>if (P.info? e).isSome=true then(dJ x).bind λx=>(HS f).bind λf=>(HS b).map λb=>.slice (ey P e) x f b else none
  | _=>none
def A5(P:Program)(c:Callee)(h:Array TypeId)(as:List bL):Option c7 :=
 match c with
 | .value f=>match dJ f with
  | some (.c (.p (.fn g [])))=>some (.call g as)
  | some f=>some (.gS f as)
  | none=>none
 | .invoke _ _=>none
 | .builtin b=>match b with
  | .len=>match as with
   | [x]=>if uE (h[0]?.bind P.underlying)=true then some (.len x)else none
   | _=>none
  | .append=>match as,h[0]?,h[1]? with
   | [a,x],some t,some u=>match P.underlying t with
    | some (.slice e)=>if uE (P.underlying u)=true/\(pY P e).map AV.sz=some (ey P e)/\P.bytesOf e<=65536 then some (.append (ey P e) a x)
     else if Mr (P.underlying u)=true/\(pY P e).map AV.sz=some (ey P e)/\P.bytesOf e<=65536 then(pY P e).map λz=>.eZ (ey P e) z a x else none
    | _=>none
   | _,_,_=>none
  | .cap=>match as with
   | [x]=>if uE (h[0]?.bind P.underlying)=true then some (.cap x)else none
   | _=>none
  | .clear=>match as,h[0]? with
   | [x],some t=>match P.underlying t with
    | some (.slice e)=>(pY P e).map λz=>.clear (ey P e) z x
    | _=>none
   | _,_=>none
  | .min=>some (.min as)
  | .max=>some (.max as)
  | _=>none
def ybv(P:Program)(c:Call):Option c7:=(oP c.args.toList).bind λas=>A5 P c.callee c.argTypes as
def oC(P:Program)(j:Op):Option c7 :=
 match j with
 | .move x | .assign x=>(dJ x).map .mv
 | .pick c a b=>(dJ c).bind λc=>(dJ a).bind λa=>(dJ b).map λb=>.pick c a b
 | .alloc e=>(pY P e).map λz=>.alloc (ey P e) z
 | .box e x=>(dJ x).map λx=>.box (ey P e) x
 | .build t parts=>match P.underlying t with
  | some (.struct p)=>(p.toList.mapM λ(f:Field)=>(P.info? f.type).map λi=>(f.offset,i.size)).bind λG=>
   (pY P t).bind λz=>if 0<z.sz then(AU G parts.toList).map λl=>.build z.cells l else none
  | some (.array n e)=>(P.info? e).bind λA=>(pY P t).bind λz=>if 0<z.sz then
   (AU ((List.range n).map λi=>(i*A.size,A.size)) parts.toList).map λl=>.build z.cells l else none
  | _=>none
 | .buildSlice t n parts=>match P.underlying t with
  | some (.slice e)=>(pY P e).bind λz=>(Dd parts.toList).map λl=>.b0 (ey P e) z n l
  | _=>none
 | .load t a=>(dJ a).bind λa=>if tok P t (ey P t) (jI P t)then some (.load (ey P t) (jI P t) a)else none
 | .store t a x=>(dJ a).bind λa=>(dJ x).bind λx=>if (P.info? t).isSome=true then some (.store (ey P t) a x)else none
 | .nilCheck x=>(dJ x).map .bT
 | .binOp j t x y _=>(dJ x).bind λx=>(dJ y).bind λy=>match P.underlying t with
  | some (.int _)=>some (.dH j x y)
  | some .bool=>some (.gD j x y)
  | some (.slice _)=>BA j x y
  | _=>(KW P t).map λD=>.jZ D j x y
 | .unOp j _ x=>(dJ x).bind λx=>match j with
  | .not=>some (.not x)
  | .neg=>some (.neg x)
  | .xor=>some (.tA x)
  | _=>none
 | .convert u r x=>(dJ x).bind λx=>match P.underlying u,P.underlying r with
  | some _,some (.int k)=>some (.conv k x)
  | _,_=>none
 | .makeFunc B first o=>C6 B first o
 | .makeSlice t l c=>match P.underlying t with
  | some (.slice e)=>(dJ l).bind λl=>(dJ c).bind λc=>(pY P e).bind λz=>if P.bytesOf e<=65536 then some (.cJ (ey P e) z l c)else none
  | _=>none
 | .slice t x E C F=>De P t x E C F
 | .fieldAddr s x f=>match P.underlying s with
  | some (.struct p)=>match p[f]? with
   | some h=>if 0<ey P h.type then(dJ x).map λx=>.iK h.offset x else none
   | none=>none
  | _=>none
 | .field s x f=>match P.underlying s with
  | some (.struct p)=>match p[f]? with
   | some h=>if tok P h.type (ey P h.type) (jI P h.type)then(dJ x).map λx=>.field h.offset (ey P h.type) (jI P h.type) x else none
   | none=>none
  | _=>none
 | .indexAddr t x i=>match P.underlying t with
  | some (.slice e)=>if (P.info? e).isSome then(dJ x).bind λx=>(dJ i).map λi=>.cE (ey P e) x i else none
  | some (.array n e)=>if (P.info? e).isSome then(dJ x).bind λx=>(dJ i).map λi=>.cK n (ey P e) x i else none
  | _=>none
 | .index t x i=>match P.underlying t with
  | some (.array n e)=>if tok P e (ey P e) (jI P e)then(dJ x).bind λx=>(dJ i).map λi=>.idx n (ey P e) (jI P e) x i else none
  | some .string=>(dJ x).bind λx=>(dJ i).map λi=>.qG x i
  | _=>none
 | .extract x i=>(dJ x).map λx=>.extract x i
 | .call c=>ybv P c
 | .lookup t m k c=>BG P t m k c
 | .makeMap .. | .mapUpdate .. | .range .. | .next .. | .entry .. =>some (.raw j)
 | .makeInterface .. | .panic .. =>some .bad
 | _=>none
section
variable {P:Program} {K:Ctx} {Z:Cz} {st st':St} {w:World} {a:Act} {orc:Option bI} {d:Nat} {v:AV}
def Pb{x:Value}{v:AV}(h:Gj x=some v):aM Z st v x/\v.one=true:=by unfold Gj at h;split at h<;>first|(cases h;exact⟨.p _ _ (.any _ rfl),rfl⟩)|(cases h;exact⟨.p _ _ (by constructor),rfl⟩)|(cases h;exact⟨.nil,rfl⟩)|cases h
theorem Pc:∀ {xs:List Value} {vs:List AV},CI xs=some vs->aG Z st vs xs/\∀ c∈vs,c.one=true
 | [],vs,h=>by simp[CI]at h;subst h;exact⟨.nil,by simp⟩
 | x::xs,vs,h=>by
  simp[CI]at h;split at h
  .rename_i a b l m;cases h;obtain⟨f,i⟩:=Pb (Z:=Z) (st:=st) l;obtain⟨j,k⟩:=Pc m;exact⟨.cons _ _ _ _ f j,by simpa using ⟨i,k⟩⟩
  .grind
def Ny{x:Value}{v:AV}(h:Fv x=some v):aM Z st v x:=by
 unfold Fv at h;split at h
 .rename_i f;cases b:CI f.toList with
  | none=>simp[b]at h
  | some k =>
   simp[b]at h;subst h;obtain⟨i,j⟩:=Pc (Z:=Z) (st:=st) b;simpa using aM.eJ j i
 .exact(Pb h).1
theorem zB{t:TypeId}{z:AV}(h:pY P t=some z):∃ i x,P.info? t=some i/\i.zero=some x/\∀ (Z:Cz) (st:St),aM Z st z x:=by
 unfold pY at h;cases b:P.info? t with
 | none=>simp[b]at h
 | some i =>
  cases f:i.zero with
  | none=>simp[b,f]at h
  | some x=>simp[b,f]at h;exact⟨i,x,rfl,f,λZ st=>Ny h⟩
theorem fD{x:Operand}{y:bL}(h:dJ x=some y)(hs:aN K Z st w a):aM Z st (st.ev y) (a.eval x):=by
 cases x with
 | tmp t=>simp[dJ]at h;subst h;exact hs.aR t
 | const v =>
  simp[dJ]at h;cases b:Fv v with
  | none=>simp[b]at h
  | some u=>simp[b]at h;subst h;exact Ny b
 | global g=>simp[dJ]at h
 | func f=>simp[dJ]at h;subst h;exact .p _ _ (.fn f [] [] .nil)
theorem BC:∀ {xs:List Operand} {b:List bL},oP xs=some b->aN K Z st w a->aG Z st (b.map st.ev) (xs.map a.eval)
 | [],b,h,_=>by simp[oP]at h;subst h;exact .nil
 | x::xs,b,h,f=>by
  simp[oP]at h;split at h
  .rename_i y l j i;cases h;exact .cons _ _ _ _ (fD j f) (BC i f)
  .grind
theorem LI{e:AV}{xs:List Value}{sz:Nat}{b:Bool}(hs:e.sz=sz)(l:b=true->1<sz)(hn:b=false->sz=1)(i:∀ c∈e.cells,c.one=true)(h:aG Z st e.cells xs) :
  (b=true->aM Z st e (.agg xs.toArray))/\(b=false->∃ x,xs=[x]/\aM Z st e x):=by
 refine⟨λf=>?_,λf=>?_⟩
 .have:=l f;refine(aM.lU (by omega) i h).2 ?_;cases m:e.one with
  | false=>rfl
  | true=>have:=(AV.cells_one m).2;omega
 .have:=hn f;refine(aM.lU (by omega) i h).1 ?_;obtain j|⟨k,rfl,j⟩|⟨k,rfl,j⟩:=AV.eA (v:=e) (by omega)
  .omega
  .rw[AV.sz,aY (by omega)]at hs;omega
  .rw[AV.sz,PV.sz,aY (by omega)]at hs;omega
theorem A6(t:TypeId)(ad:Addr):(Instr.loadAt t (.pointer (some ad))).run P w=(loadVar t ad).run P w:=rfl
theorem Uh(t:TypeId)(ad:Addr)(x:Value):(Instr.storeAt t (.pointer (some ad)) x).run P w=(storeVar t ad x).run P w:=rfl
def vv{s g:Nat}{o:bD}(h:st.obj s g=some o)(b:st.obj s g=none):False:=by simp_all
theorem AT{s g k off:Nat}{o:bD}{x:Value}(h:aM Z st (.ptr s g k off) x)(j:st.obj s g=some o):∃ b,Z.B s g=some b/\x=.pointer (some ⟨b,k*o.sz+off,none⟩):=by
 cases h with
 | ptr _ _ _ _ l b i f=>rw[j]at i;cases i;exact⟨b,f,rfl⟩
 | kK _ _ _ _ _ _ f=>exact(vv j f).elim
def ybi{t:TypeId}{x:Operand}{y:bL}(hx:dJ x=some y)(V:tok P t (ey P t) (jI P t)=true)(hs:aN K Z st w a)
  (j:bX orc st d (.load (ey P t) (jI P t) y)=some (v,st')) :
  Good P K Z st ((do pure (Next.value (<- Instr.loadAt t (a.eval x))):Sem Next).run P w) v st':=by
 have hr:=fD hx hs;obtain⟨_,_,_,_,_,_,af,E⟩:=EV V;generalize av:ey P t=sz at *
 generalize au:jI P t=ag at *
 generalize a.eval x=X at hr ⊢;simp only[bX]at j;split at j
 .rename_i s g W f M;rw[M]at hr;split at j
  .rename_i o ho;obtain⟨b,hb,F⟩:=AT hr ho;have Y:=hs.heap.bR s g o ho;obtain⟨ad,T,B,k1,k2,k3,k4,k5,k6⟩:=Y.bU b hb;split at j
   .rename_i e O;have L:∀ e∈o.es,(AV.cells e).length=o.sz:=λe j=>by rw[AV.bS (by rw[Y.jC e j];exact Y.pos),Y.jC e j]
    have A:=EO AV.cells o.sz o.es W e L O;have R:=Jz AV.cells o.sz o.es W e L O;have J:e∈o.es:=List.mem_of_getElem? O;have H:∀ c∈e.cells,c.one=true:=λc n=>Y.one c (List.mem_flatMap.2 ⟨e,J,n⟩);have Q:∀ (i:Nat) (v:Value),B[i]?=some v->ad[0+i]?=some v:=by simpa using k3
    split at j
    .rename_i n;obtain⟨rfl,rfl⟩:=n;simp only[cF,dA]at j;obtain⟨rfl,rfl⟩:=j;obtain⟨xs,l,h2,m,D⟩:=BB (P:=P) (Z:=Z) (st:=st) (k:=W*o.sz) (o:=0) V k1 k2 Q R;rw[A]at l;obtain⟨r1,r2⟩:=LI (Y.jC e J) af E H l;cases ag with
     | true=>have m:=m rfl;rw[F];simp only[qW,vB]at m ⊢;simp only[mT,A6,m,qB,oI];exact tR hs.heap (r1 rfl)
     | false =>
      obtain⟨x1,I,G⟩:=D rfl;obtain⟨x2,C,e4⟩:=r2 rfl;rw[I]at C;cases C;rw[F];simp only[qW,vB]at G ⊢;simp only[mT,A6,G,qB,oI];exact tR hs.heap e4
    .split at j
     .rename_i u h;simp only[cF,dA]at j;obtain⟨rfl,rfl⟩:=j;have aq:e.cells.length=o.sz:=L e J;cases ag with
      | true =>
       simp only[AV.xY,cB]at h;split at h
       .rename_i hl;cases h;have hk:f+sz<=e.cells.length:=by have:=hl.1;have:=hl.2;simp at *;omega
        obtain⟨xs,l,h2,m,D⟩:=BB (P:=P) (Z:=Z) (st:=st) (k:=W*o.sz+f) (o:=0) V k1 k2 Q (by omega);have I:((o.es.flatMap AV.cells).drop (W*o.sz+f)).take sz=(e.cells.drop f).take sz:=by
         rw[<- A,It,wj,FI]
         congr 1;omega
        rw[I]at l;have m:=m rfl;rw[F];simp only[qW]at m;simp only[mT,A6,m,qB,oI];exact tR hs.heap (aM.eJ (λc n=>H c (lu (jA n))) l)
       .cases h
      | false =>
       have U:=E rfl;subst U;simp only[AV.xY,cB,gJ,fQ]at h;have hk:f+1<=e.cells.length:=by
        obtain R|N:=pR f e.cells.length
        .omega
        .rw[xr N]at h;simp at h
       obtain⟨xs,l,h2,m,D⟩:=BB (P:=P) (Z:=Z) (st:=st) (k:=W*o.sz+f) (o:=0) V k1 k2 Q (by omega);have I:((o.es.flatMap AV.cells).drop (W*o.sz+f)).take 1=(e.cells.drop f).take 1:=by
        rw[<- A,It,wj,FI]
        congr 1;omega
       rw[I]at l;obtain⟨x1,G,C⟩:=D rfl;subst G;rw[F];simp only[qW]at C;simp only[mT,A6,C,qB,oI];refine tR hs.heap ?_;cases z:(e.cells.drop f).take 1 with
       | nil=>rw[z]at h;simp at h
       | cons c r =>
        rw[z]at h l;simp at h;subst h;cases l with|cons _ _ _ _ hx _=>exact hx
     .cases j
   .cases j
  .cases j
 .rename_i pv ao f M;rw[M]at hr;cases hr with
  | cp _ _ _ b o ad T fr B m0 m1 m2 m3 m4 m5 =>
   have hm:=hs.heap.mem b _ m0;have S:aG Z st (pv.cells.map .p) B:=aG.lS m4;have ap:pv.cells.length=ao:=by rw[PV.bS (by omega)];exact m2
   split at j
   .rename_i n;obtain⟨rfl,al⟩:=n;simp only[cF,dA]at j;obtain⟨rfl,rfl⟩:=j;obtain⟨xs,l,h2,m,D⟩:=BB (P:=P) (Z:=Z) (st:=st) (k:=0) (o:=o) V hm S m5 (by simp;omega);rw[yJ,fK (by simp;omega),<- AV.oM]at l;obtain⟨r1,r2⟩:=LI (e:=.p pv) (sz:=sz) (by rw[AV.Mw,m2,al]) af E (by rw[AV.oM];intro c n;simp at n;obtain⟨q,hq,rfl⟩:=n;exact m3 q hq) l;cases ag with
    | true=>simp only[mT,A6,m rfl,qB,oI];exact tR hs.heap (r1 rfl)
    | false =>
     obtain⟨x1,I,G⟩:=D rfl;obtain⟨x2,C,e4⟩:=r2 rfl;rw[I]at C;cases C;simp only[mT,A6,G,qB,oI];exact tR hs.heap e4
   .split at j
    .rename_i u h;simp only[cF,dA]at j;obtain⟨rfl,rfl⟩:=j;cases ag with
     | true =>
      simp only[PV.xY,cB]at h;split at h
      .rename_i hl;cases h;have hk:f+sz<=pv.cells.length:=by have:=hl.1;have:=hl.2;simp at *;omega
       obtain⟨xs,l,h2,m,D⟩:=BB (P:=P) (Z:=Z) (st:=st) (k:=f) (o:=o) V hm S m5 (by simpa using hk);simp only[Sem.run_bind,A6,m rfl,Result.andThen_ok,Sem.run_pure];rw[<- List.map_drop,<- List.map_take]at l;exact tR hs.heap (.p _ _ (.agg _ _ (λc n=>m3 c (List.mem_of_mem_drop (List.mem_of_mem_take n))) (aG.oT l)))
      .cases h
     | false =>
      have U:=E rfl;subst U;simp only[PV.xY,cB,gJ,fQ]at h;have hk:f+1<=pv.cells.length:=by
       obtain R|N:=pR f pv.cells.length
       .omega
       .rw[xr N]at h;simp at h
      obtain⟨xs,l,h2,m,D⟩:=BB (P:=P) (Z:=Z) (st:=st) (k:=f) (o:=o) V hm S m5 (by simpa using hk);obtain⟨x1,G,C⟩:=D rfl;subst G;simp only[Sem.run_bind,A6,C,Result.andThen_ok,Sem.run_pure];refine tR hs.heap ?_;rw[<- List.map_drop,<- List.map_take]at l;have l:=aG.oT l;cases z:(pv.cells.drop f).take 1 with
      | nil=>rw[z]at h;simp at h
      | cons c r =>
       rw[z]at h l;simp at h;subst h;cases l with|cons _ _ _ _ hx _=>exact .p _ _ hx
    .cases j
 .cases j
end
section
variable {P:Program} {K:Ctx} {Z Z':Cz} {st st':St} {w w':World} {a:Act} {orc:Option bI} {d:Nat} {v:AV}
def va{s:Sem Value}{x:Value}(f:s.run P w=.ok x w')(b:bC K Z' st' w')(h:aM Z' st' v x)(i:cO Z st Z' st') :
  Good P K Z st ((do pure (Next.value (<- s)):Sem Next).run P w) v st':=by
 simp only[mT,f,qB,oI];exact⟨_,x,w',Z',rfl,.inl rfl,b,h,i⟩
def iA{s:Sem Value}{x:Value}(b:s.run P w=.ok x w)(hs:aN K Z st w a)(f:aM Z st v x) :
  Good P K Z st ((do pure (Next.value (<- s)):Sem Next).run P w) v st:=va b hs.heap f (cO.refl Z st)
def Yw{s:Sem Unit}(f:s.run P w=.ok () w')(b:bC K Z' st' w')(h:cO Z st Z' st') :
  Good P K Z st ((do s;pure Next.skip:Sem Next).run P w) .undef st':=by
 simp only[mT,f,qB,oI];exact⟨_,Go.undef,w',Z',rfl,.inr ⟨rfl,rfl⟩,b,.undef _,h⟩
def TA{x:Operand}{y:bL}(f:dJ x=some y)(hs:aN K Z st w a)(b:bX orc st d (.mv y)=some (v,st')) :
  Good P K Z st ((pure (Next.value (a.eval x)):Sem Next).run P w) v st':=by
 simp only[bX,cF,dA]at b;obtain⟨rfl,rfl⟩:=b;exact tR hs.heap (fD f hs)
def ybg{c x y:Operand}{h i j:bL}(m:dJ c=some h)(n:dJ x=some i)(o:dJ y=some j)(hs:aN K Z st w a)
  (b:bX orc st d (.pick h i j)=some (v,st')) :
  Good P K Z st ((do pure (Next.value (if <- asBool (a.eval c)then a.eval x else a.eval y)):Sem Next).run P w) v st':=by
 have f:=fD m hs;have k:=fD n hs;have l:=fD o hs;simp only[bX]at b;split at b
 .rename_i e;rw[e]at f;rw[f.fO];simp only[cF,dA]at b;obtain⟨rfl,rfl⟩:=b;simp only[asBool,mT,oI,qB,cB];exact tR hs.heap k
 .rename_i e;rw[e]at f;rw[f.fO];simp only[cF,dA]at b;obtain⟨rfl,rfl⟩:=b;simp only[asBool,mT,oI,qB];exact tR hs.heap l
 .cases b
def Su{sz:Nat}{x:AV}{X:Value}{e:TypeId}(hs:aN K Z st w a)(j:aM Z st x X)(b:x.sz=sz)(hp:0<sz) :
  ∃ Z',(newVar e X).run P w=.ok ⟨w.heap.size,0,none⟩ (w.alloc (.cells X.cells e))/\bC K Z' (st.alloc d ⟨sz,[x]⟩) (w.alloc (.cells X.cells e)) /\
   aM Z' (st.alloc d ⟨sz,[x]⟩) (.ptr d (st.site d).length 0 0) (.pointer (some ⟨w.heap.size,0,none⟩))/\cO Z st Z' (st.alloc d ⟨sz,[x]⟩):=by
 obtain⟨f,k,h⟩:=j.cells (by omega)
 have i:=hs.heap.alloc d ⟨sz,[x]⟩ X.cells e 1 X.cells.toList hp (by simpa using b) (by simpa using h) (by simpa using f) (by simp)
  (by have:=f.length;simp at this;simp;omega) (by simp) (by simp[maxLen])
 refine⟨_,by simp[newVar,newRow],i,?_,cO.alloc _ _ _ _ _ _⟩;have:=aM.ptr (Z:=Z.bO d (st.site d).length (some w.heap.size) 1) (st:=st.alloc d ⟨sz,[x]⟩) d (st.site d).length 0 0 ⟨sz,[x]⟩ w.heap.size (by rw[kY,if_pos ⟨rfl,rfl⟩]) (by simp[Cz.bO]);simpa using this
theorem V9{e:TypeId}{z:AV}(p:pY P e=some z)(hs:aN K Z st w a)(b:bX orc st d (.alloc (ey P e) z)=some (v,st')) :
  Good P K Z st ((do pure (Next.value (<- Instr.alloc e true (.tuple #[]))):Sem Next).run P w) v st':=by
 obtain⟨i,x,n,f,o⟩:=zB p;simp only[bX]at b;split at b
 .rename_i h;simp only[cF,dA]at b;obtain⟨rfl,rfl⟩:=b;obtain⟨Z',j,k,l,m⟩:=Su (P:=P) (e:=e) (d:=d) hs (o Z st) h.1 h.2;exact va (by simp[Instr.alloc,zeroValue,typeInfo,n,f,j]) k l m
 .cases b
theorem ZG{e:TypeId}{x:Operand}{y:bL}(m:dJ x=some y)(hs:aN K Z st w a)(b:bX orc st d (.box (ey P e) y)=some (v,st')) :
  Good P K Z st ((do pure (Next.value (<- Instr.box e (a.eval x))):Sem Next).run P w) v st':=by
 have l:=fD m hs;simp only[bX]at b;split at b
 .rename_i f;simp only[cF,dA]at b;obtain⟨rfl,rfl⟩:=b;obtain⟨Z',h,i,j,k⟩:=Su (P:=P) (e:=e) (d:=d) hs l f.1 f.2;exact va (by simp[Instr.box,h]) i j k
 .cases b
def Wi{t:TypeId}{p x:Operand}{q y:bL}(hp:dJ p=some q)(hx:dJ x=some y)(ht:(P.info? t).isSome=true)(hs:aN K Z st w a)
  (m:bX orc st d (.store (ey P t) q y)=some (v,st')) :
  Good P K Z st ((do Instr.storeAt t (a.eval p) (a.eval x);pure Next.skip:Sem Next).run P w) v st':=by
 have hr:=fD hp hs;have hy:=fD hx hs;obtain⟨i,hi⟩:=Cc.1 ht;have ap:i.size=ey P t:=by simp[ey,Program.cellsOf,hi]
 generalize ey P t=sz at *
 simp only[bX]at m;generalize a.eval p=X at hr ⊢;generalize a.eval x=Y at hy ⊢;generalize st.ev y=C at *
 split at m
 .rename_i s g j f al;rw[al]at hr;split at m
  .rename_i o ho;obtain⟨b,hb,W⟩:=AT hr ho;have H:=hs.heap.bR s g o ho;obtain⟨k,T,l,k1,k2,k3,k4,k5,k6⟩:=H.bU b hb;split at m
   .rename_i e F;have r:∀ e∈o.es,(AV.cells e).length=o.sz:=λe m=>by rw[AV.bS (by rw[H.jC e m];exact H.pos),H.jC e m]
    have U:=EO AV.cells o.sz o.es j e r F;have bk:=Jz AV.cells o.sz o.es j e r F;have E:e∈o.es:=wg F;have aw:∀ c∈e.cells,c.one=true:=λc M=>H.one c (kv.2 ⟨e,E,M⟩);have Q:j<o.es.length:=(iR.1 F).1;obtain⟨L,B⟩:=LY k3;have bo:=k2.length
    have af:∀ (G:AV) (f:Nat),0<C.sz->G.sz=o.sz->G.cells=e.cells.take f++C.cells++e.cells.drop (f+C.cells.length)->f+C.cells.length<=e.cells.length->C.cells.length=sz ->
      Good P K Z st ((do Instr.storeAt t (.pointer (some ⟨b,j*o.sz+f,none⟩)) Y;pure Next.skip:Sem Next).run P w) .undef (st.setObj s g ⟨o.sz,o.es.set j G⟩):=by
     intro G f S V D bb ad;obtain⟨y1,y2,y3⟩:=hy.cells S;have au:=y1.length;have O:=r e E;have J:k.size=(l++L).length:=by rw[<- B];simp
     have I:Y.cells.size=sz:=by have:=au;simp at this;omega
     have aq:=V3 (P:=P) (t:=t) (sz:=sz) (x:=Y) (o:=j*o.sz+f) hi ap k1 I (by rw[J];simp;omega) (HN y1 y3);have av:j*o.sz+f+sz<=l.length:=by omega
     have R:(k.toList.take (j*o.sz+f)++Y.cells.toList++k.toList.drop (j*o.sz+f+sz)) =
       (l.take (j*o.sz+f)++Y.cells.toList++l.drop (j*o.sz+f+sz))++L:=by
      rw[B,D0 (by omega),FK (by omega)];simp[uK]
     have u:(o.es.set j G).flatMap AV.cells=(o.es.flatMap AV.cells).take (j*o.sz+f)++C.cells++(o.es.flatMap AV.cells).drop (j*o.sz+f+sz):=by
      rw[J0 AV.cells o.sz o.es j G r Q,D,<- U,ad];have e1:List.take f (List.take o.sz (List.drop (j*o.sz) (o.es.flatMap AV.cells)))=List.drop (j*o.sz) (List.take (j*o.sz+f) (o.es.flatMap AV.cells)):=by
       rw[FI,It]
       congr 1;omega
      have e2:List.drop (f+sz) (List.take o.sz (List.drop (j*o.sz) (o.es.flatMap AV.cells)))++List.drop (j*o.sz+o.sz) (o.es.flatMap AV.cells)=List.drop (j*o.sz+f+sz) (o.es.flatMap AV.cells):=by
       rw[It,wj,<- Nat.add_assoc];have h1:j*o.sz+o.sz=(j*o.sz+f+sz)+(o.sz - (f+sz)):=by omega
       have h2:List.drop (j*o.sz+o.sz) (o.es.flatMap AV.cells)=List.drop (o.sz - (f+sz)) (List.drop (j*o.sz+f+sz) (o.es.flatMap AV.cells)):=by rw[wj,<- h1]
       rw[h2];exact oJ _ _
      rw[e1];have e3:List.take (j*o.sz) (o.es.flatMap AV.cells)++List.drop (j*o.sz) (List.take (j*o.sz+f) (o.es.flatMap AV.cells))=List.take (j*o.sz+f) (o.es.flatMap AV.cells):=by have:=oJ (j*o.sz) (List.take (j*o.sz+f) (o.es.flatMap AV.cells));rw[FI,wc (by omega)]at this;exact this
      simp only[uK]at e3 ⊢;rw[<- List.append_assoc,e3,e2]
     have hh:=hs.heap.setObj ho hb (o.es.set j G) (k.toList.take (j*o.sz+f)++Y.cells.toList++k.toList.drop (j*o.sz+f+sz)).toArray
      (l.take (j*o.sz+f)++Y.cells.toList++l.drop (j*o.sz+f+sz))
      (λz hz=>by
       obtain h|h:=DY hz
       .exact H.jC z h
       .rw[h];exact V)
      (λc M=>by
       rw[u]at M;obtain h|h:=dT.1 M
       .obtain h|h:=dT.1 h
        .exact H.one c (jA h)
        .exact y3 c h
       .exact H.one c (lu h))
      (by simp)
      (by rw[u];exact((k2.take _).append y1).append (k2.drop _))
      (CJ R)
      (by
       have:(k.toList.take (j*o.sz+f)++Y.cells.toList++k.toList.drop (j*o.sz+f+sz)).length=k.size:=by
        have N:k.toList.length=k.size:=by simp
        simp only[gL,iB,lp,N,SR,I];rw[J];simp;omega
       simp only[Is,this];exact k4)
     exact Yw (by rw[Uh];exact aq) hh (cO.setObj Z st s g o _ ho rfl (by simp))
    split at m
    .rename_i br;split at m
     .rename_i M;obtain⟨rfl,N⟩:=M;simp only[cF,dA]at m;obtain⟨rfl,rfl⟩:=m;have A:0<C.sz:=by omega
      have ao:=AV.bS A;have O:=r e E;rw[W];exact af C 0 A (by omega) (by simp[xr (show e.cells.length<=C.cells.length from by omega)]) (by omega) (by omega)
     .split at m
      .rename_i G n;simp only[cF,dA]at m;obtain⟨rfl,rfl⟩:=m;unfold AV.rR at n;split at n
       .rename_i ag;cases n;rw[W];have O:=r e E;have A:0<C.sz:=by omega
        have ao:=AV.bS A;exact af _ f A (by rw[N0,aY]<;>simp<;>omega) (Qa _) ag.1 (by omega)
       .cases n
      .cases m
    .cases m
   .cases m
  .cases m
 .cases m
end
section
variable {P:Program} {K:Ctx} {Z Z':Cz} {st st':St} {w w':World} {a:Act} {orc:Option bI} {d:Nat} {v:AV}
theorem Wg{r:String}{x:Operand}{y:bL}(H:dJ x=some y)(hs:aN K Z st w a)(l:bX orc st d (.bT y)=some (v,st')) :
  Good P K Z st ((match a.eval x with
  | .pointer none | .nilIface | .nilFunc=>runtimePanic .nilDeref
  | .func (.method name) first i =>
   match (first[0]?:Option Value)with
   | some .nilIface=>runtimePanic .nilDeref
   | some (.iface t w)=>do
    if (<- nilAhead ((<- program).types.size+Made.depth) t w name) != some false then
     unsupported (.noEntry r)
    pure (.value (.func (.method name) first i))
   | _=>pure (.value (.func (.method name) first i))
  | x=>pure (.value x):Sem Next).run P w) v st':=by
 have m:=fD H hs;generalize a.eval x=X at m ⊢;simp only[bX]at l;split at l
 .rename_i s g L I j;rw[j]at m;split at l
  .rename_i o G;simp only[cF,dA]at l;obtain⟨rfl,rfl⟩:=l;obtain⟨b,J,rfl⟩:=AT m G;exact tR hs.heap m
  .cases l
 .rename_i j;rw[j]at m;simp only[cF,dA]at l;obtain⟨rfl,rfl⟩:=l;have p:=m.cA;cases p with
  | fn f u k h=>exact tR hs.heap m
 .rename_i j;rw[j]at m;simp only[cF,dA]at l;obtain⟨rfl,rfl⟩:=l;cases m with
  | fn _ _ k h=>exact tR hs.heap (.fn _ _ k h)
 .rename_i j;rw[j]at m;simp only[cF,dA]at l;obtain⟨rfl,rfl⟩:=l;have p:=m.cA;cases p with
  | ref v b o n T z k A B C D E=>exact tR hs.heap m
 .rename_i j;rw[j]at m;simp only[cF,dA]at l;obtain⟨rfl,rfl⟩:=l;cases m with
  | cp _ _ _ b o n T z k A B C D E F=>exact tR hs.heap (.cp _ _ _ b o n T z k A B C D E F)
 .cases l
def XM{b:BinOp}{k:IntKind}{x y:Int}{r:PV}{t:TypeId}{M:Nat->Option Obj}(i:xd b=false)(h:AA b k x y=some r) :
  ∃ z,(binOp b t (.int k x) (.int k y)).run P w=.ok z w/\PRep M r z:=by
 cases b<;>simp only[xd,Bool.true_eq_false]at i<;>simp only[AA]at h <;>
  first
  | (cases h;refine⟨_,?_,by constructor⟩;simp[binOp,Op.intArith,Op.intBits,Op.intCmp];done)
  | (split at h<;>first|(cases h;done)|(cases h;rename_i f;refine⟨_,?_,by constructor⟩;simp[binOp,Op.intDiv,f]))
def UD{b:BinOp}{k k':IntKind}{x y:Int}{r:PV}{t:TypeId}{M:Nat->Option Obj}(i:xd b=true)(h:ET b k x y=some r) :
  ∃ z,(binOp b t (.int k x) (.int k' y)).run P w=.ok z w/\PRep M r z:=by
 unfold ET at h;split at h
 .cases h
 .rename_i f;cases b<;>simp only[xd,gJ]at i<;>cases h<;>refine⟨_,?_,by constructor⟩<;>simp[binOp,Op.shift,f]
def Ue{b:BinOp}{t:TypeId}{x y:Operand}{k k':IntKind}{n m:Int}:eqGuard b t x y (.int k n) (.int k' m)=pure ():=by cases b<;>rfl
def Up{b:BinOp}{t:TypeId}{x y:Operand}{n m:Bool}:eqGuard b t x y (.bool n) (.bool m)=pure ():=by cases b<;>rfl
def ybk{h:BinOp}{t:TypeId}{x y:Operand}{B C:bL}(F:dJ x=some B)(G:dJ y=some C)(hs:aN K Z st w a)
  (f:bX orc st d (.dH h B C)=some (v,st')) :
  Good P K Z st ((do pure (Next.value (<- (do eqGuard h t x y (a.eval x) (a.eval y);binOp h t (a.eval x) (a.eval y)))):Sem Next).run P w) v st':=by
 have s:=fD F hs;have u:=fD G hs;simp only[bX]at f;split at f
 .rename_i r b;simp only[cF,dA]at f;obtain⟨rfl,rfl⟩:=f;unfold dH at b;split at b
  .rename_i k n k' m D E;rw[D]at s;rw[E]at u;rw[s.dE,u.dE];have A:(eqGuard h t x y (.int k n) (.int k' m)).run P w=.ok () w:=by rw[Ue];rfl
   split at b
   .rename_i i;obtain⟨z,l,o⟩:=UD (P:=P) (w:=w) (t:=t) (k':=k') (M:=Z.M) i b;exact iA (by simp[A,l]) hs (.p _ _ o)
   .rename_i i;split at b
    .rename_i j;subst j;obtain⟨z,l,o⟩:=XM (P:=P) (w:=w) (t:=t) (M:=Z.M) (by simpa using i) b;exact iA (by simp[A,l]) hs (.p _ _ o)
    .cases b
  .cases b
 .cases f
def ybm{h:BinOp}{t:TypeId}{x y:Operand}{o s:bL}(A:P.underlying t=some .bool)(B:dJ x=some o)(C:dJ y=some s)(hs:aN K Z st w a)
  (f:bX orc st d (.gD h o s)=some (v,st')) :
  Good P K Z st ((do pure (Next.value (<- (do eqGuard h t x y (a.eval x) (a.eval y);binOp h t (a.eval x) (a.eval y)))):Sem Next).run P w) v st':=by
 have i:=fD B hs;have j:=fD C hs;simp only[bX]at f;split at f
 .rename_i r b;simp only[cF,dA]at f;obtain⟨rfl,rfl⟩:=f;unfold gD at b;split at b
  .rename_i k n u z;rw[u]at i;rw[z]at j;rw[i.fO,j.fO];have l:(eqGuard h t x y (.bool k) (.bool n)).run P w=.ok () w:=by rw[Up];rfl
   have m:(Op.equal t (.bool k) (.bool n)).run P w=.ok (k == n) w:=run_equalIn_bool w _ t k n A;split at b
   .cases b;exact iA (by simp[l,binOp,m]) hs (.p _ _ (.bool _))
   .cases b;exact iA (by simp[l,binOp,m]) hs (.p _ _ (.bool _))
   .cases b
  .cases b
 .cases f
def Zi{x:Operand}{y:bL}(h:dJ x=some y)(hs:aN K Z st w a)(b:bX orc st d (.not y)=some (v,st')) :
  Good P K Z st ((do pure (Next.value (<- Op.unary .not (a.eval x))):Sem Next).run P w) v st':=by
 have f:=fD h hs;simp only[bX]at b;split at b
 .rename_i e;rw[e]at f;rw[f.fO];simp only[cF,dA]at b;obtain⟨rfl,rfl⟩:=b;exact iA (by simp[Op.unary]) hs (.p _ _ (.bool _))
 .cases b
def Zh{x:Operand}{y:bL}(h:dJ x=some y)(hs:aN K Z st w a)(b:bX orc st d (.neg y)=some (v,st')) :
  Good P K Z st ((do pure (Next.value (<- Op.unary .neg (a.eval x))):Sem Next).run P w) v st':=by
 have f:=fD h hs;simp only[bX]at b;split at b
 .rename_i e;rw[e]at f;rw[f.dE];simp only[cF,dA]at b;obtain⟨rfl,rfl⟩:=b;exact iA (by simp[Op.unary,Op.intArith]) hs (.p _ _ (.int _ _))
 .cases b
def ybj{x:Operand}{y:bL}(h:dJ x=some y)(hs:aN K Z st w a)(b:bX orc st d (.tA y)=some (v,st')) :
  Good P K Z st ((do pure (Next.value (<- Op.unary .xor (a.eval x))):Sem Next).run P w) v st':=by
 have f:=fD h hs;simp only[bX]at b;split at b
 .rename_i e;rw[e]at f;rw[f.dE];simp only[AA,cF,dA]at b;obtain⟨rfl,rfl⟩:=b;exact iA (by simp[Op.unary,Op.intBits]) hs (.p _ _ (.int _ _))
 .cases b
def ybl{s t:TypeId}{ds:TypeDesc}{k:IntKind}{x:Operand}{y:bL}(h:P.underlying s=some ds)(i:P.underlying t=some (.int k))(j:dJ x=some y)(hs:aN K Z st w a)
  (b:bX orc st d (.conv k y)=some (v,st')) :
  Good P K Z st ((do pure (Next.value (<- convert s t (a.eval x))):Sem Next).run P w) v st':=by
 have f:=fD j hs;simp only[bX]at b;split at b
 .rename_i e;rw[e]at f;rw[f.dE];simp only[cF,dA]at b;obtain⟨rfl,rfl⟩:=b;refine iA (x:=.int k (k.wrap _)) ?_ hs (.p _ _ (.int _ _));cases ds<;>simp[convert,run_underlying h,run_underlying i,Conv.intToInt]
 .cases b
def ybh{f:FuncId}{b:Array Operand}{i:List bL}(k:oP b.toList=some i)(hs:aN K Z st w a)(h:bX orc st d (.jK f i)=some (v,st')) :
  Good P K Z st ((do pure (Next.value (<- Instr.makeFunc (.func f) ((#[]:Array Operand).map a.eval) (b.map a.eval))):Sem Next).run P w) v st':=by
 have j:=BC k hs;simp only[bX]at h;split at h
 .simp only[Option.some.injEq,Prod.mk.injEq]at h;obtain⟨rfl,rfl⟩:=h;refine iA (x:=.func (.func f) #[] (b.map a.eval)) (by simp[Instr.makeFunc]) hs ?_;have:=aM.fn f _ _ j;simpa[<- Array.toList_map]using this
 .cases h
def Wb{s:TypeId}{A:Array Field}{n:Nat}{k:Field}{x:Operand}{y:bL}(E:P.underlying s=some (.struct A))(F:A[n]?=some k)(t:0<ey P k.type)
  (G:dJ x=some y) (hs:aN K Z st w a) (f:bX orc st d (.iK k.offset y)=some (v,st')) :
  Good P K Z st ((do pure (Next.value (<- Instr.fieldAt s (a.eval x) n)):Sem Next).run P w) v st':=by
 have l:=fD G hs;obtain⟨i,p,u⟩:∃ i,P.info? k.type=some i/\i.size≠0:=by
  simp only[ey,Program.cellsOf]at t;cases p:P.info? k.type with
  | none=>simp[p]at t
  | some i=>simp[p]at t;exact⟨i,rfl,by omega⟩
 have h:∀ b o,(Instr.fieldAt s (.pointer (some ⟨b,o,none⟩)) n).run P w=.ok (.pointer (some ⟨b,o+k.offset,none⟩)) w:=by intro b o;simp[Instr.fieldAt,run_underlying E,F,Instr.sureAddr,fieldPlace,sizeOf,typeInfo,p,u,vj]
 generalize a.eval x=X at l ⊢;simp only[bX]at f;split at f
 .rename_i R g Q o j;rw[j]at l;split at f
  .rename_i z B;simp only[cF,dA]at f;obtain⟨rfl,rfl⟩:=f;obtain⟨b,C,rfl⟩:=AT l B;exact iA (h b _) hs (by rw[Ce];exact .ptr _ _ _ _ z b B C)
  .cases f
 .rename_i pv O o j;rw[j]at l;simp only[cF,dA]at f;obtain⟨rfl,rfl⟩:=f;cases l with
  | cp _ _ _ b z r T D m H I J L M N=>exact iA (h b _) hs (by rw[Ce];exact .cp _ _ _ b z r T D m H I J L M N)
 .cases f
end
end Go.Ab
