/- Lemmas for the law AmbiguityCounts, part 6. No conditions. -/
import Derived.Test.YtcemegnnejaahaaGreatDoorDP05
set_option maxRecDepth 100000
set_option maxHeartbeats 4000000
set_option linter.all false
namespace Go.Ab
def ziw(i:Nat)(r:AV):Nat->List PV->List (Nat × AV)
 | _,[]=>[]
 | n,v::l=>(n,if n=i then r else .p v)::ziw i r (n+1) l
def refM(p:PV):AV :=
 match p with
 | .ref _=>.ptr PIN 0 0 0
 | .sl es=>.own PIN 0 0 es.length
 | _=>.undef
def elsM(p:PV):List PV :=
 match p with
 | .ref e=>[e]
 | .sl es=>es
 | _=>[]
def zdv(args:List PV)(i sz:Nat)(p:PV):St:=⟨ziw i (refM p) 0 args,[(PIN,[some ⟨sz,(elsM p).map .p⟩])]⟩
inductive ResM (st:St):AV->Nat->RV->Prop
 | pure (v:AV) (n:Nat) (p:PV):toPV st FUEL v=some p->(PIN,0)∉deps st FUEL v->ResM st v n (.pure p)
 | same (l n:Nat):l<=n->ResM st (.own PIN 0 0 l) n (.same l)
section
variable {P:Program} {K:Ctx} {Z Z':Cz} {st st' st1 st2:St} {w w':World} {a:Act} {N:Nat} {args:List PV}
theorem zm0{i:Nat}{r:AV}:∀ (args:List PV) (n t:Nat),look (ziw i r n args) t AV.undef=if t<n then .undef else match args[t - n]? with|some v=>if t=i then r else .p v|none=>.undef
 | [],n,t=>by simp[ziw,look]
 | v::l,n,t=>by
  simp only[ziw,look];split
  ·rename_i h;subst h;simp
  ·rename_i h;rw[zm0 l (n+1) t];by_cases h1:t<n
   ·rw[yf1 (by omega),yf1 h1]
   ·rw[yf0 (by omega),yf0 h1];have:t - n=(t - (n+1))+1:=by omega
    rw[this];rfl
theorem zyt{M:Nat->Option Obj}{vals:List Value}{i sz cap:Nat}{p:PV}{b:Option Nat}{es:List PV}(hM:∀ b o,M b=some o->w.heap[b]?=some o)(hvl:vals.length=args.length)(hp:args[i]?=some p)(href:∃ x,vals[i]?=some x/\MRef p es b cap x)
  (ha:MArr M w b cap sz es) (ho:∀ j q,j≠i->args[j]?=some q->∃ x,vals[j]?=some x/\PRep M q x) (hn:args.length<=N) :
  es=elsM p/\StRep ⟨w,M,fun c=>b=some c,N⟩ ⟨M,fun _ _=>b,fun _ _=>cap⟩ (zdv args i sz p) w { tmps:=vals.toArray++Array.replicate (N - vals.toArray.size) Go.undef,defers:=[] }:=by
 obtain⟨x,hx,hr⟩:=href;obtain⟨a1,a2,a3,a4,a5⟩:=ha;have hes:es=elsM p:=by rcases hr with⟨rfl,_⟩|⟨e,b',rfl,rfl,_,_⟩<;>rfl
 have hobj:∀ s g o,(zdv args i sz p).obj s g=some o->s=PIN/\g=0/\o=⟨sz,es.map .p⟩:=by
  intro s g o h;simp only[St.obj,St.site,zdv,look]at h;split at h
  ·rename_i hs;cases g with
   | zero=>simp at h;subst hs;subst h;rw[hes];exact⟨rfl,rfl,rfl⟩
   | succ g=>simp at h
  ·simp at h
 have hpin:(zdv args i sz p).obj PIN 0=some ⟨sz,es.map .p⟩:=by simp[St.obj,St.site,zdv,look,hes]
 refine⟨hes,fun t=>?_,rfl,by simp;omega,⟨fun s g o h=>?_,fun s g s' g' o o' b' h h' _ _=>?_,hM,fun s g o b' h hb=>(a5 b' hb).1,fun s g o b' _ hb=>.inl hb,fun _ _ h=>h,fun _ _ h=>.inl h,Keep.refl w _⟩⟩
 ·have hget:(zdv args i sz p).get t=match args[t]? with|some v=>if t=i then refM p else .p v|none=>.undef:=by have:=zm0 (i:=i) (r:=refM p) args 0 t;simpa[St.get,zdv]using this
  rw[hget];have hval:∀ y,vals[t]?=some y->(vals.toArray++Array.replicate (N - vals.toArray.size) Go.undef).getD t Go.undef=y:=by intro y hy;have hlt:=(List.getElem?_eq_some_iff.1 hy).1;simp[Array.getElem?_append,hlt];simpa using (List.getElem?_eq_some_iff.1 hy).2
  cases hq:args[t]? with
  | none=>exact .undef _
  | some q =>
   simp only;split
   ·rename_i hti;subst hti;rw[hp]at hq;cases hq;rw[hval x hx];rcases hr with⟨rfl,rfl⟩|⟨e,b',rfl,rfl,rfl,rfl⟩
    ·simp only[refM];cases b with
     | none =>
      have:=a4 rfl;subst this;exact .own0 _ _ _ hpin rfl
     | some b =>
      obtain⟨_,cur,T,cv,k1,k2,k3,k4,k5,k6⟩:=a5 b rfl;exact .own _ _ 0 es.length _ b _ cap hpin rfl (fun _=>⟨rfl,rfl⟩) (fun _=>by simp) (by simp) k5
    ·simp only[refM];have:=ARep.ptr (Z:=⟨M,fun _ _=>some b',fun _ _=>cap⟩) (st:=zdv args t sz (.ref e)) PIN 0 0 0 _ b' hpin rfl;simpa using this
   ·rename_i hti;obtain⟨y,hy,hr'⟩:=ho t q hti hq;rw[hval y hy];exact .p _ _ hr'
 ·obtain⟨rfl,rfl,rfl⟩:=hobj s g o h;refine⟨a1,fun e he=>?_,fun c hc=>?_,fun hb=>?_,fun b' hb=>?_⟩
  ·obtain⟨q,hq,rfl⟩:=yf6.1 he;exact a2 q hq
  ·rw[zal]at hc;obtain⟨q,hq,rfl⟩:=yf6.1 hc;exact a3 q hq
  ·simp only at hb;rw[a4 hb];rfl
  ·obtain⟨_,cur,T,cv,k1,k2,k3,k4,k5,k6⟩:=a5 b' hb;exact⟨cur,T,cv,k1,by rw[zal];exact AReps.of_p k2,k3,k4,by simpa using k5,k6⟩
 ·obtain⟨rfl,rfl,_⟩:=hobj s g o h;obtain⟨rfl,rfl,_⟩:=hobj s' g' o' h';exact⟨rfl,rfl⟩
theorem SpM.of_runs{f:FuncId}{C:FnC}{ex:Exit}{vs:List AV}{res:RV}{i sz:Nat}{p:PV}{es':List PV}(hc:zac P f=some C)(hn:args.length<=C.N)(hp:args[i]?=some p)
  (hrun:Runs P C.N C.body (zdv args i sz p) ex st') (hex:ex=.ret\/ex=.normal) (hvs:zbd st' C.res=some vs) (hpin:st'.obj PIN 0=some ⟨sz,es'.map .p⟩) (hlen:es'.length=(elsM p).length) (hres:ResM st' (resOf vs) (elsM p).length res) :
  SpM P f args i sz es' res:=by
 unfold zac at hc;split at hc
 ·rename_i fn hf;split at hc
  ·rename_i hname;split at hc
   ·rename_i c hb;split at hc
    ·rename_i bd rs h1 h2;cases hc;refine⟨⟨fn,hf,by rw[hb];rfl,hname⟩,fun w M vals b cap es hM hvl href hi ha ho=>?_⟩;obtain⟨hes,hinit⟩:=zyt hM hvl hp (href p hp) ha ho hn;subst hes;refine calls_of_wp hf hb ?_;refine hrun _ h1 ⟨w,M,fun c=>b=some c,fn.ntmps⟩ _ w _ _ rfl hinit (fun Z' w' a' hs hpl=>?_)
     have hfin:a'.defers=[]/\∃ v,(results fn a'.tmps).run P w'=.ok v w'/\∃ x M',Ending.returned v=.returned x/\(∀ b o,M b=some o->M' b=some o)/\(∀ b o,M' b=some o->w'.heap[b]?=some o) /\
       (∀ b o,M' b=some o->M b=some o\/w.heap.size<=b)/\Keep w w' (fun c=>b=some c)/\es'.length=(elsM p).length/\MArr M' w' b cap sz es'/\MRes M' w w' b cap (elsM p).length res x:=by
      obtain⟨xs,e1,e2⟩:=zij hs h2 hvs;have hx:=e2.resOf;generalize hxx:(if h:xs.toArray.size=1 then xs.toArray[0]else .tuple xs.toArray)=x at hx;have hrun:(results fn a'.tmps).run P w'=.ok x w':=by rw[<- hxx];unfold results;rw[yin];simp only[yfx,map_eq_pure_bind,yg0];exact congrArg (fun r=>(Result.andThen r fun a w'=>Result.ok a.toArray w').andThen fun(a:Array Value) w'=>Result.ok (if h:a.size=1 then a[0]else Value.tuple a) w') e1
      obtain⟨hB,hC⟩:Z'.B PIN 0=b/\Z'.cap PIN 0=cap:=by
       rcases hpl.live PIN 0 ⟨sz,(elsM p).map .p⟩ (by decide) (by decide) (by simp[St.obj,St.site,zdv,look])with h|⟨_,_,_,_,h1,h2⟩
       ·rw[hpin]at h;cases h
       ·exact⟨h1,h2⟩
      have hO:=hs.heap.objs _ _ _ hpin;have hprov:∀ c o,Z'.M c=some o->M c=some o\/w.heap.size<=c:=fun c o hc=>by
       rcases hs.heap.prov c o hc with h|h|h
       ·exact .inl h
       ·rw[hs.heap.sep PIN 0 _ c hpin (hB.trans h)]at hc;cases hc
       ·exact .inr h
      have harr:∀ M',(∀ c o,Z'.M c=some o->M' c=some o)->(∀ c,b=some c->M' c=none)->MArr M' w' b cap sz es':=by
       intro M' hmm hno;refine⟨hO.pos,fun e he=>hO.els (.p e) (yf6.2 ⟨e,he,rfl⟩),fun q hq=>?_,fun hb=>?_,fun b' hb'=>?_⟩
       ·have:=hO.one (.p q) (by rw[zal];exact yf6.2 ⟨q,hq,rfl⟩);exact this
       ·have:=hO.non (hB.trans hb);simpa using this
       ·obtain⟨cur,T,cv,k1,k2,k3,k4,k5,k6⟩:=hO.blk b' (hB.trans hb');rw[zal]at k2;rw[hC]at k4 k5 k6;exact⟨hno b' hb',cur,T,cv,k1,k2.to_p.mono hmm,k3,k4,by simpa using k5,k6⟩
      have hsepM:∀ c,b=some c->Z'.M c=none:=fun c hc=>hs.heap.sep PIN 0 _ c hpin (hB.trans hc);generalize resOf vs=v at hx hres;generalize hnn:(elsM p).length=n at hres hlen;refine⟨hs.defers,_,hrun,?_⟩;cases hres with
      | pure _ _ q hq hni =>
       refine⟨x,Mx Z' st' w' (deps st' FUEL v),rfl,fun b o hb=>Mx_M (hs.heap.m0 b o hb),fun b o hb=>?_,fun b o hb=>?_,hs.heap.keep,by rw[hlen],harr _ (fun c o hc=>Mx_M hc) (fun c hc=>?_),?_⟩
       ·rcases zbx hb with h|⟨_,h,_⟩
        ·exact hs.heap.mem b o h
        ·exact h
       ·rcases zbx hb with h|⟨_,_,s,g,ob,m1,m2,m3⟩
        ·exact hprov b o h
        ·rcases hs.heap.own s g ob b m2 m3 with h|h
         ·obtain⟨rfl,rfl⟩:=hs.heap.inj s g PIN 0 ob _ b m2 hpin m3 (hB.trans h);exact absurd m1 hni
         ·exact .inr h
       ·cases hm:Mx Z' st' w' (deps st' FUEL v) c with
        | none=>rfl
        | some y =>
         exfalso;rcases zbx hm with h|⟨_,_,s,g,ob,m1,m2,m3⟩
         ·rw[hsepM c hc]at h;cases h
         ·obtain⟨rfl,rfl⟩:=hs.heap.inj s g PIN 0 ob _ c m2 hpin m3 (hB.trans hc);exact hni m1
       ·exact zf6 hs.heap _ FUEL _ _ _ hx hq (fun i hi=>hi)
      | same l _ hl =>
       refine⟨x,Z'.M,rfl,hs.heap.m0,hs.heap.mem,hprov,hs.heap.keep,by rw[hlen],harr _ (fun _ _ h=>h) hsepM,hl,?_⟩;cases hx with
       | own0 _ _ o ho hb0=>rw[<- hB,hb0]
       | own _ _ _ _ o b' ad c ho hb' h1 h2 h3 h4 =>
        obtain⟨rfl,rfl⟩:=h1 rfl;rw[<- hB,hb',hC]
       | ownD _ _ _ _ _ _ _ hd=>exact(za4 hpin hd).elim
     rcases hex with rfl|rfl
     ·exact hfin
     ·exact hfin
    ·cases hc
   ·cases hc
  ·cases hc
 ·cases hc
end
inductive Outc:Type 1
 | ok (c:Prop) (v:AV) (s:St)
 | el {α : Type} (l:List α) (n:Nat) (f : α -> Outc)
 | br (t:Bool) (a b:Outc)
 | bad
def runO(K:AV->St->Prop):Outc->Prop
 | .ok c v s=>c/\K v s
 | .el l n f=>∃ e,l[n]?=some e/\runO K (f e)
 | .br t a b=>(t=true->runO K a)/\(t=false->runO K b)
 | .bad=>False
def optO{α : Type}:Option α -> (α -> Outc)->Outc
 | some x,f=>f x
 | none,_=>.bad
def Outc.and(c:Prop):Outc->Outc
 | .ok d v s=>.ok (c/\d) v s
 | .el l n f=>.el l n fun x=>(f x).and c
 | .br t a b=>.br t (a.and c) (b.and c)
 | .bad=>.bad
def brO:AV->Outc->Outc->Outc
 | .p (.bool t),a,b=>.br t a b
 | _,_,_=>.bad
def natO:AV->(Nat->Outc)->Outc
 | .p (.int _ n),f=>(f n.toNat).and (0<=n)
 | _,_=>.bad
def zhl(st:St)(o:Option Opd)(n:Nat)(f:Nat->Outc):Outc :=
 match o with
 | some x=>natO (st.ev x) f
 | none=>f n
def andI(k:IntKind)(a b:Int):Int:=k.wrap (BitVec.ofInt k.bits a &&& BitVec.ofInt k.bits b).toNat
def orI(k:IntKind)(a b:Int):Int:=k.wrap (BitVec.ofInt k.bits a ||| BitVec.ofInt k.bits b).toNat
def xorI(k:IntKind)(a b:Int):Int:=k.wrap (BitVec.ofInt k.bits a ^^^ BitVec.ofInt k.bits b).toNat
def z7z(k:IntKind)(a b:Int):Int:=k.wrap (BitVec.ofInt k.bits a &&& ~~~ BitVec.ofInt k.bits b).toNat
def z64(op:BinOp)(k:IntKind)(a b:Int)(st:St):Outc :=
 match op with
 | .add=>.ok True (.p (.int k (k.wrap (a+b)))) st
 | .sub=>.ok True (.p (.int k (k.wrap (a - b)))) st
 | .mul=>.ok True (.p (.int k (k.wrap (a*b)))) st
 | .quo=>.ok (b≠0) (.p (.int k (k.wrap (a.tdiv b)))) st
 | .rem=>.ok (b≠0) (.p (.int k (a.tmod b))) st
 | .and=>.ok True (.p (.int k (andI k a b))) st
 | .or=>.ok True (.p (.int k (orI k a b))) st
 | .xor=>.ok True (.p (.int k (xorI k a b))) st
 | .andNot=>.ok True (.p (.int k (z7z k a b))) st
 | .eql=>.ok True (.p (.bool (decide (a=b)))) st
 | .neq=>.ok True (.p (.bool (!decide (a=b)))) st
 | .lss=>.ok True (.p (.bool (decide (a<b)))) st
 | .leq=>.ok True (.p (.bool (decide (a<=b)))) st
 | .gtr=>.ok True (.p (.bool (decide (b<a)))) st
 | .geq=>.ok True (.p (.bool (decide (b<=a)))) st
 | .shl=>.ok (0<=b) (.p (.int k (k.wrap (a*2^Nat.min b.toNat k.bits)))) st
 | .shr=>.ok (0<=b) (.p (.int k (a / (2^Nat.min b.toNat k.bits)))) st
def z2f(op:BinOp)(x y:AV)(st:St):Outc :=
 match x,y with
 | .p (.int k a),.p (.int k' b)=>if zdu op=true\/k=k' then z64 op k a b st else .bad
 | _,_=>.bad
def elsO(st:St)(v:AV)(f:List AV->Outc):Outc :=
 match v with
 | .p (.sl es)=>f (es.map .p)
 | .nil=>f []
 | .p .nl=>f []
 | .p .sle=>f []
 | .own s g off len=>optO (st.obj s g) fun o=>(f ((o.es.drop off).take len)).and (off+len<=o.es.length)
 | _=>.bad
def szs(sz:Nat)(l:List AV):Prop:=(l.all fun v=>v.sz == sz)=true/\0<sz
def szsP(sz:Nat)(l:List PV):Prop:=(l.all fun v=>v.sz == sz)=true/\0<sz
def oc(st:St)(d:Nat):IOp->Outc
 | .mv x=>.ok True (st.ev x) st
 | .pick c a b=>brO (st.ev c) (.ok True (st.ev a) st) (.ok True (st.ev b) st)
 | .alloc sz zero=>.ok (zero.sz=sz/\0<sz) (.ptr d (st.site d).length 0 0) (st.alloc d ⟨sz,[zero]⟩)
 | .box sz x=>.ok ((st.ev x).sz=sz/\0<sz) (.ptr d (st.site d).length 0 0) (st.alloc d ⟨sz,[st.ev x]⟩)
 | .build zero parts=>optO (zcy zero (parts.map fun(o,s,x)=>(o,s,st.ev x))) fun cs=>.ok True (mkAgg cs) st
 | .bslice sz zero n parts=>optO (zcz (List.replicate n zero.pur) sz (parts.map fun(i,x)=>(i,(st.ev x).pur))) fun es=>.ok (zero.sz=sz/\0<sz/\n*sz<=16777216) (.own d (st.site d).length 0 n) (st.alloc d ⟨sz,es⟩)
 | .load sz ag x=>match st.ev x with
  | .ptr s g ix off=>optO (st.obj s g) fun o=>.el o.es ix fun e=>if off=0/\sz=o.sz then .ok True e st else optO (e.seg off sz ag) fun v=>.ok True v st
  | .cp v vsz off=>if off=0/\sz=vsz then .ok True (.p v) st else optO (v.seg off sz ag) fun v=>.ok True (.p v) st
  | _=>.bad
 | .store sz a x=>match st.ev a with
  | .ptr s g ix off=>optO (st.obj s g) fun o=>.el o.es ix fun e =>
    if off=0/\sz=o.sz then .ok ((st.ev x).sz=sz/\0<sz) .undef (st.setObj s g ⟨o.sz,o.es.set ix (st.ev x)⟩)
    else optO (e.setSeg off (st.ev x)) fun e'=>.ok ((st.ev x).sz=sz/\0<sz) .undef (st.setObj s g ⟨o.sz,o.es.set ix e'⟩)
  | _=>.bad
 | .nilck x=>match st.ev x with
  | .ptr s g ix off=>optO (st.obj s g) fun _=>.ok True (.ptr s g ix off) st
  | .p (.fn f caps)=>.ok True (.p (.fn f caps)) st
  | .fn f caps=>.ok True (.fn f caps) st
  | .p (.ref v)=>.ok True (.p (.ref v)) st
  | .cp v vsz off=>.ok True (.cp v vsz off) st
  | _=>.bad
 | .ibin op x y=>z2f op (st.ev x) (st.ev y) st
 | .bbin op x y=>optO (bbin op (st.ev x) (st.ev y)) fun v=>.ok True (.p v) st
 | .abin ks op x y=>optO (abin ks op (st.ev x) (st.ev y)) fun v=>.ok True (.p v) st
 | .not x=>match st.ev x with
  | .p (.bool b)=>.ok True (.p (.bool (!b))) st
  | _=>.bad
 | .neg x=>match st.ev x with
  | .p (.int k n)=>.ok True (.p (.int k (k.wrap (0 - n)))) st
  | _=>.bad
 | .ixor x=>match st.ev x with
  | .p (.int k n)=>.ok True (.p (.int k (xorI k (if k.signed then -1 else k.max) n))) st
  | _=>.bad
 | .conv k x=>match st.ev x with
  | .p (.int _ n)=>.ok True (.p (.int k (k.wrap n))) st
  | _=>.bad
 | .mkbm f x=>match st.ev x with
  | .p v=>.ok True (.p (.bm f v)) st
  | _=>.bad
 | .mkfn f caps=>.ok ((caps.map st.ev).all AV.one=true) (.fn f (caps.map st.ev)) st
 | .mkslice sz zero l c=>natO (st.ev l) fun n=>natO (st.ev c) fun m=>.ok (n<=m/\m<=LIM/\zero.sz=sz/\0<sz) (.own d (st.site d).length 0 n) (st.alloc d ⟨sz,List.replicate n zero.pur0⟩)
 | .slice sz x lo hi=>zhl st lo 0 fun l=>match st.ev x with
  | .p (.sl es)=>zhl st hi es.length fun h=>.ok ((l<=h/\h<=es.length)/\szsP sz es) (.p (.sl ((es.drop l).take (h - l)))) st
  | .own s g off len=>zhl st hi len fun h=>optO (st.obj s g) fun o=>.ok (l<=h/\h<=len/\off+len<=o.es.length/\o.sz=sz) (.own s g (off+l) (h - l)) st
  | .nil=>zhl st hi 0 fun h=>.ok (l=0/\h=0) .nil st
  | _=>.bad
 | .faddr off x=>match st.ev x with
  | .ptr s g ix o=>optO (st.obj s g) fun _=>.ok True (.ptr s g ix (o+off)) st
  | .cp v vsz o=>.ok True (.cp v vsz (o+off)) st
  | _=>.bad
 | .field off sz ag x=>optO (st.ev x).acells fun cs=>optO (segL cs off sz ag) fun v=>.ok True v st
 | .iaddr sz x i=>natO (st.ev i) fun n=>match st.ev x with
  | .p (.sl es)=>.el es n fun e=>.ok (e.sz=sz/\0<sz) (.cp e sz 0) st
  | .own s g off len=>optO (st.obj s g) fun o=>.ok (n<len/\off+len<=o.es.length/\o.sz=sz) (.ptr s g (off+n) 0) st
  | _=>.bad
 | .iaddrA m sz x i=>natO (st.ev i) fun n=>match st.ev x with
  | .ptr s g ix o=>optO (st.obj s g) fun _=>.ok (n<m) (.ptr s g ix (o+n*sz)) st
  | .cp v vsz o=>.ok (n<m) (.cp v vsz (o+n*sz)) st
  | _=>.bad
 | .idx m sz ag x i=>natO (st.ev i) fun n=>optO (st.ev x).acells fun cs=>optO (segL cs (n*sz) sz ag) fun v=>.ok (n<m) v st
 | .extract x i=>match st.ev x with
  | .tup vs=>optO vs[i]? fun v=>.ok True v st
  | .p (.tup vs)=>optO vs[i]? fun v=>.ok True (.p v) st
  | _=>.bad
 | .len x=>match st.ev x with
  | .p (.sl es)=>.ok True (.p (.int .i64 es.length)) st
  | .nil=>.ok True (.p (.int .i64 0)) st
  | .own _ _ _ len=>.ok True (.p (.int .i64 len)) st
  | _=>.bad
 | .append sz a x=>elsO st (st.ev x) fun xs=>match st.ev a with
  | .nil=>.ok (szs sz (xs.map AV.pur)/\xs.length<=LIM) (.own d (st.site d).length 0 xs.length) (st.alloc d ⟨sz,xs.map AV.pur⟩)
  | .own s g off len=>optO (st.obj s g) fun o=>.ok (szs sz (xs.map AV.pur)/\(off=0/\len=o.es.length/\o.sz=sz/\len+xs.length<=LIM))
    (.own d ((killAll st [(s,g)]).site d).length 0 (len+xs.length)) ((killAll st [(s,g)]).alloc d ⟨sz,o.es++xs.map AV.pur⟩)
  | _=>.bad
 | .isnil neg x=>match st.ev x with
  | .nil=>.ok True (.p (.bool (!neg))) st
  | .p .nl=>.ok True (.p (.bool (!neg))) st
  | .p .sle=>.ok True (.p (.bool neg)) st
  | .p (.sl es)=>.ok (es≠[]) (.p (.bool neg)) st
  | .own s g _ len=>optO (st.obj s g) fun _=>.ok (0<len) (.p (.bool neg)) st
  | _=>.bad
 | .cap x=>match st.ev x with
  | .nil=>.ok True (.p (.int .i64 0)) st
  | _=>.bad
 | .clear sz zero x=>match st.ev x with
  | .nil=>.ok True (.tup []) st
  | .own s g off len=>optO (st.obj s g) fun o=>.ok (off+len<=o.es.length/\o.sz=sz/\zero.sz=sz) (.tup []) (st.setObj s g ⟨o.sz,o.es.take off++List.replicate len zero.pur++o.es.drop (off+len)⟩)
  | _=>.bad
 | .appendz sz zero a x=>natO (st.ev x) fun n=>match st.ev a with
  | .nil=>.ok (0<n/\n<=LIM/\zero.sz=sz/\0<sz) (.own d (st.site d).length 0 n) (st.alloc d ⟨sz,List.replicate n zero.pur⟩)
  | _=>.bad
 | .mlook qs zero x k=>match st.ev x,st.ev k with
  | .p (.mp _ ks vs),.p (.agg kc)=>.ok (zcl qs kc=true/\ks.all (zek qs)=true) (match zbu kc ks vs with|some v=>.p v|none=>zero) st
  | _,_=>.bad
 | .mlookc qs zero x k=>match st.ev x,st.ev k with
  | .p (.mp _ ks vs),.p (.agg kc)=>.ok (zcl qs kc=true/\ks.all (zek qs)=true) (match zbu kc ks vs with|some v=>.tup [.p v,.p (.bool true)]|none=>.tup [zero,.p (.bool false)]) st
  | _,_=>.bad
 | .sidx x i=>natO (st.ev i) fun n=>match st.ev x with
  | .p (.str s)=>.el s.data.toList n fun b=>.ok True (.p (.int .u8 b.toNat)) st
  | _=>.bad
 | .min xs=>optO (zgj false (xs.map st.ev)) fun v=>.ok True (.p v) st
 | .max xs=>optO (zgj true (xs.map st.ev)) fun v=>.ok True (.p v) st
 | _=>.bad
section
variable {P:Program} {N:Nat} {st s1 st':St} {d:Nat} {K:AV->St->Prop}
theorem zdh{c:Prop}:∀ {o:Outc},runO K (o.and c)->runO K o/\c
 | .ok d v s,h=>⟨⟨h.1.2,h.2⟩,h.1.1⟩
 | .el l n f,⟨e,h1,h2⟩=>⟨⟨e,h1,(zdh h2).1⟩,(zdh h2).2⟩
 | .br true a b,h=>⟨⟨fun _=>(zdh (h.1 rfl)).1,fun h=>by cases h⟩,(zdh (h.1 rfl)).2⟩
 | .br false a b,h=>⟨⟨fun h=>(by cases h),fun _=>(zdh (h.2 rfl)).1⟩,(zdh (h.2 rfl)).2⟩
theorem z3s{v:AV}{a b:Outc}(h:runO K (brO v a b)):(v=.p (.bool true)/\runO K a)\/(v=.p (.bool false)/\runO K b):=by
 unfold brO at h;split at h
 ·rename_i t;cases t
  ·exact .inr ⟨rfl,h.2 rfl⟩
  ·exact .inl ⟨rfl,h.1 rfl⟩
 ·exact h.elim
theorem zar{α : Type}{o:Option α}{f : α -> Outc}(h:runO K (optO o f)):∃ e,o=some e/\runO K (f e):=by
 cases o with
 | none=>exact h.elim
 | some x=>exact⟨x,rfl,h⟩
theorem zdn{v:AV}{f:Nat->Outc}(h:runO K (natO v f)):∃ n,ziq v=some n/\runO K (f n):=by
 unfold natO at h;split at h
 ·rename_i k n;have:=zdh h;exact⟨n.toNat,by simp[ziq,this.2],this.1⟩
 ·exact h.elim
theorem zef{o:Option Opd}{m:Nat}{f:Nat->Outc}(h:runO K (zhl st o m f)):∃ n,zdk st o m=some n/\runO K (f n):=by
 unfold zhl at h;cases o with
 | none=>exact⟨m,rfl,h⟩
 | some x=>exact zdn h
theorem zza{v:AV}{f:List AV->Outc}(h:runO K (elsO st v f)):∃ l,st.elems v=some l/\runO K (f l):=by
 unfold elsO at h;split at h
 ·exact⟨_,rfl,h⟩
 ·exact⟨_,rfl,h⟩
 ·exact⟨_,rfl,h⟩
 ·exact⟨_,rfl,h⟩
 ·obtain⟨o,h1,h2⟩:=zar h;have:=zdh h2;exact⟨_,by simp[St.elems,h1,this.2],this.1⟩
 ·exact h.elim
theorem zvd{op:BinOp}{x y:AV}(h:runO K (z2f op x y st)):∃ v,ibin op x y=some v/\K (.p v) st:=by
 unfold z2f at h;split at h
 ·rename_i k a k' b;split at h
  ·rename_i hk;by_cases hs:zdu op=true
   ·cases op<;>simp only[zdu,yfl]at hs
    ·obtain⟨h1,h2⟩:=h;exact⟨_,by simp only[ibin,zdu,yf2,zh0];rw[yf0 (by omega)],h2⟩
    ·obtain⟨h1,h2⟩:=h;exact⟨_,by simp only[ibin,zdu,yf2,zh0];rw[yf0 (by omega),Int.fdiv_eq_ediv_of_nonneg _ (Int.pow_nonneg (by decide))],h2⟩
   ·have hkk:k=k':=hk.resolve_left hs;subst hkk;have hb:∃ v,zjb op k a b=some v/\K (.p v) st:=by
     cases op<;>simp only[zdu,not_true_eq_false]at hs<;>simp only[z64,runO]at h<;>first
      | exact⟨_,rfl,h.2⟩
      | (obtain⟨h1,h2⟩:=h;exact⟨_,by simp only[zjb];rw[yf0 h1],h2⟩)
      | exact⟨_,by simp only[zjb,bne,beq_eq_decide],h.2⟩
    obtain⟨v,h1,h2⟩:=hb;exact⟨v,by simp only[ibin,hs,h1,yf2];rfl,h2⟩
  ·exact h.elim
 ·exact h.elim
theorem ydt{op:IOp}(h:runO K (oc st d op)):∃ v s,eff none st d op=some (v,s)/\K v s:=by
 cases op<;>simp only[oc]at h<;>simp only[eff]
 case mv x=>exact⟨_,_,rfl,h.2⟩
 case pick c a b =>
  rcases z3s h with⟨e,h⟩|⟨e,h⟩<;>rw[e]<;>exact⟨_,_,rfl,h.2⟩
 case alloc sz zero=>exact⟨_,_,by rw[yf1 h.1],h.2⟩
 case box sz x=>exact⟨_,_,by rw[yf1 h.1],h.2⟩
 case build zero parts=>obtain⟨cs,h1,h2⟩:=zar h;exact⟨_,_,by rw[h1],h2.2⟩
 case bslice sz zero n parts=>obtain⟨cs,h1,h2⟩:=zar h;exact⟨_,_,by rw[yf1 h2.1,h1],h2.2⟩
 case load sz ag x =>
  split at h
  ·rename_i he;simp only[he];obtain⟨o,h1,e,h2,h3⟩:=zar h;simp only[h1,h2];split at h3
   ·rename_i hc;exact⟨_,_,by rw[yf1 hc],h3.2⟩
   ·rename_i hc;obtain⟨v,h4,h5⟩:=zar h3;exact⟨_,_,by rw[yf0 hc,h4],h5.2⟩
  ·rename_i he;simp only[he];split at h
   ·rename_i hc;exact⟨_,_,by rw[yf1 hc],h.2⟩
   ·rename_i hc;obtain⟨v,h4,h5⟩:=zar h;exact⟨_,_,by rw[yf0 hc,h4],h5.2⟩
  ·exact h.elim
 case store sz a x =>
  split at h
  ·rename_i he;simp only[he];obtain⟨o,h1,e,h2,h4⟩:=zar h;simp only[h1,h2];split at h4
   ·rename_i hc;exact⟨_,_,by rw[yf1 h4.1,yf1 hc],h4.2⟩
   ·rename_i hc;obtain⟨v,h5,h6⟩:=zar h4;exact⟨_,_,by rw[yf1 h6.1,yf0 hc,h5],h6.2⟩
  ·exact h.elim
 case nilck x =>
  split at h
  ·rename_i he;simp only[he];obtain⟨o,h1,h2⟩:=zar h;exact⟨_,_,by rw[h1],h2.2⟩
  all_goals first|exact h.elim|(rename_i he;simp only[he];exact⟨_,_,rfl,h.2⟩)
 case ibin op x y=>obtain⟨v,h1,h2⟩:=zvd h;exact⟨_,_,by rw[h1],h2⟩
 case bbin op x y=>obtain⟨v,h1,h2⟩:=zar h;exact⟨_,_,by rw[h1],h2.2⟩
 case abin ks op x y=>obtain⟨v,h1,h2⟩:=zar h;exact⟨_,_,by rw[h1],h2.2⟩
 case not x=>split at h<;>first|exact h.elim|(rename_i he;simp only[he];exact⟨_,_,rfl,h.2⟩)
 case neg x=>split at h<;>first|exact h.elim|(rename_i he;simp only[he];exact⟨_,_,rfl,h.2⟩)
 case ixor x=>split at h<;>first|exact h.elim|(rename_i he;simp only[he];exact⟨_,_,rfl,h.2⟩)
 case conv k x=>split at h<;>first|exact h.elim|(rename_i he;simp only[he];exact⟨_,_,rfl,h.2⟩)
 case mkbm f x=>split at h<;>first|exact h.elim|(rename_i he;simp only[he];exact⟨_,_,rfl,h.2⟩)
 case mkfn f caps=>exact⟨_,_,by rw[yf1 h.1],h.2⟩
 case mkslice sz zero l c =>
  obtain⟨n,h1,h⟩:=zdn h;obtain⟨m,h2,h⟩:=zdn h;exact⟨_,_,by simp only[h1,h2];rw[yf1 h.1],h.2⟩
 case slice sz x lo hi =>
  obtain⟨l,h1,h⟩:=zef h;simp only[h1];split at h
  ·rename_i he;simp only[he];obtain⟨k,h2,⟨h3,h4⟩,h5⟩:=zef h;simp only[h2];exact⟨_,_,by rw[yf1 ⟨h3.1,h3.2,h4.1,h4.2⟩],h5⟩
  ·rename_i he;simp only[he];obtain⟨k,h2,h⟩:=zef h;obtain⟨o,h3,h4,h5⟩:=zar h;simp only[h2,h3];exact⟨_,_,by rw[yf1 h4],h5⟩
  ·rename_i he;simp only[he];obtain⟨k,h2,h4,h5⟩:=zef h;simp only[h2];exact⟨_,_,by rw[yf1 h4],h5⟩
  ·exact h.elim
 case faddr off x =>
  split at h
  ·rename_i he;simp only[he];obtain⟨o,h1,h2⟩:=zar h;exact⟨_,_,by rw[h1],h2.2⟩
  ·rename_i he;simp only[he];exact⟨_,_,rfl,h.2⟩
  ·exact h.elim
 case field off sz ag x=>obtain⟨v,h1,h⟩:=zar h;obtain⟨u,h2,h3⟩:=zar h;exact⟨_,_,by simp only[h1,h2],h3.2⟩
 case iaddr sz x i =>
  obtain⟨n,h1,h⟩:=zdn h;simp only[h1];split at h
  ·rename_i he;simp only[he];obtain⟨e,h2,h3,h4⟩:=h;exact⟨_,_,by simp only[h2];rw[yf1 h3],h4⟩
  ·rename_i he;simp only[he];obtain⟨e,h2,h3,h4⟩:=zar h;exact⟨_,_,by simp only[h2];rw[yf1 h3],h4⟩
  ·exact h.elim
 case iaddrA m sz x i =>
  obtain⟨n,h1,h⟩:=zdn h;simp only[h1];split at h
  ·rename_i he;simp only[he];obtain⟨e,h2,h3,h4⟩:=zar h;exact⟨_,_,by simp only[h2];rw[yf1 h3],h4⟩
  ·rename_i he;simp only[he];exact⟨_,_,by rw[yf1 h.1],h.2⟩
  ·exact h.elim
 case idx m sz ag x i =>
  obtain⟨n,h1,h⟩:=zdn h;obtain⟨v,h2,h⟩:=zar h;obtain⟨u,h3,h0,h4⟩:=zar h;exact⟨_,_,by simp only[h1,h0,yf2,h2,h3],h4⟩
 case extract x i =>
  split at h
  ·rename_i he;simp only[he];obtain⟨e,h2,h3⟩:=zar h;exact⟨_,_,by rw[h2],h3.2⟩
  ·rename_i he;simp only[he];obtain⟨e,h2,h3⟩:=zar h;exact⟨_,_,by rw[h2],h3.2⟩
  ·exact h.elim
 case len x=>split at h<;>first|exact h.elim|(rename_i he;simp only[he];exact⟨_,_,rfl,h.2⟩)
 case append sz a x =>
  obtain⟨xs,h1,h⟩:=zza h;simp only[h1];split at h
  ·rename_i he;obtain⟨⟨h0,h2⟩,h3⟩:=h;have h0':((xs.map AV.pur).all fun v=>v.sz == sz)=true/\0<sz:=h0;simp only[he];rw[yf1 h0'];exact⟨_,_,by rw[yf1 h2],h3⟩
  ·rename_i he;obtain⟨o,h2,⟨h0,h3⟩,h4⟩:=zar h;have h0':((xs.map AV.pur).all fun v=>v.sz == sz)=true/\0<sz:=h0;simp only[he];rw[yf1 h0'];simp only[h2];exact⟨_,_,by rw[yf1 h3],h4⟩
  ·exact h.elim
 case isnil neg x =>
  split at h
  ·rename_i he;simp only[he];exact⟨_,_,rfl,h.2⟩
  ·rename_i he;simp only[he];exact⟨_,_,rfl,h.2⟩
  ·rename_i he;simp only[he];exact⟨_,_,rfl,h.2⟩
  ·rename_i es he;cases es with
   | nil=>exact absurd rfl h.1
   | cons y ys=>simp only[he];exact⟨_,_,rfl,h.2⟩
  ·rename_i he;simp only[he];obtain⟨o,h1,h2,h3⟩:=zar h;exact⟨_,_,by simp only[h1];rw[yf1 h2],h3⟩
  ·exact h.elim
 case cap x=>split at h<;>first|exact h.elim|(rename_i he;simp only[he];exact⟨_,_,rfl,h.2⟩)
 case clear sz zero x =>
  split at h
  ·rename_i he;simp only[he];exact⟨_,_,rfl,h.2⟩
  ·rename_i he;simp only[he];obtain⟨o,h1,h2,h3⟩:=zar h;exact⟨_,_,by simp only[h1];rw[yf1 h2],h3⟩
  ·exact h.elim
 case appendz sz zero a x =>
  obtain⟨n,h1,h⟩:=zdn h;split at h
  ·rename_i he;simp only[he,h1];exact⟨_,_,by rw[yf1 h.1],h.2⟩
  ·exact h.elim
 case mlook qs zero x k =>
  split at h
  ·rename_i r ks vs kc h1 h2;simp only[h1,h2];refine⟨_,_,?_,h.2⟩;rw[yf1 h.1];cases zbu kc ks vs<;>rfl
  ·exact h.elim
 case mlookc qs zero x k =>
  split at h
  ·rename_i r ks vs kc h1 h2;simp only[h1,h2];refine⟨_,_,?_,h.2⟩;rw[yf1 h.1];cases zbu kc ks vs<;>rfl
  ·exact h.elim
 case sidx x i =>
  obtain⟨n,h1,h⟩:=zdn h;split at h
  ·rename_i s he;simp only[he,h1];obtain⟨b,hb,h2,h3⟩:=h;have:s[n]?=some b:=by
    have h0:=(List.getElem?_eq_some_iff.1 hb);obtain⟨hlt,he2⟩:=h0;have hlt':n<s.size:=by simpa using hlt
    rw[getElem?_pos s n hlt',<- he2];rfl
   exact⟨_,_,by simp only[this],h3⟩
  ·exact h.elim
 case min xs=>obtain⟨v,h1,h2⟩:=zar h;exact⟨_,_,by rw[h1],h2.2⟩
 case max xs=>obtain⟨v,h1,h2⟩:=zar h;exact⟨_,_,by rw[h1],h2.2⟩
 all_goals exact h.elim
end
inductive GC where
 | nop
 | reg (ops:List Ins) (dead:List (List Nat))
 | regD (ops:List Ins) (pre:List (List Nat)) (dead:List (List Nat))
 | seq (a b:GC)
 | cond (c:Opd) (dead:List Nat) (a b:GC)
 | blk (id:Nat) (b:GC)
 | loop (b:GC)
 | ext (id:Nat)
 | ret
 | bad
 | cut (b:GC)
 | scp (b:GC)
def GC.er:GC->AC
 | .nop=>.nop
 | .reg is _=>.reg is
 | .regD is pre _=>.regD is pre
 | .seq a b=>.seq a.er b.er
 | .cond c _ a b=>.cond c a.er b.er
 | .blk id b=>.blk id b.er
 | .loop b=>.loop b.er
 | .ext id=>.ext id
 | .ret=>.ret
 | .bad=>.bad
 | .cut b=>b.er
 | .scp b=>.scp b.er
inductive Kt where
 | ins (is:List Ins) (dead:List (List Nat))
 | insD (is:List Ins) (fs:List FP) (pre:List (List Nat)) (dead:List (List Nat))
 | code (b:GC)
 | blk (id:Nat)
def GC.sz:GC->Nat
 | .reg is _=>is.length+2
 | .regD is _ _=>is.length+2
 | .seq a b=>a.sz+b.sz+1
 | .cond _ _ a b=>a.sz+b.sz+1
 | .blk _ b=>b.sz+2
 | .cut b=>b.sz+1
 | .scp b=>b.sz+1
 | _=>1
def Kt.sz:Kt->Nat
 | .ins is _=>is.length+1
 | .insD is _ _ _=>is.length+1
 | .code b=>b.sz
 | .blk _=>1
def szK:List Kt->Nat
 | []=>0
 | k::ks=>k.sz+szK ks
theorem GC.sz_pos(b:GC):0<b.sz:=by cases b<;>simp[GC.sz]
theorem Kt.sz_pos(k:Kt):0<k.sz:=by cases k<;>simp[Kt.sz,GC.sz_pos]
def zaw(id:Nat):List Kt->Option (List Kt)
 | []=>none
 | .blk j::ks=>if j=id then some ks else zaw id ks
 | _::ks=>zaw id ks
theorem zez{id:Nat}:∀ {ks r:List Kt},zaw id ks=some r->szK r<szK ks
 | .blk j::ks,r,h=>by
  simp only[zaw]at h;simp only[szK,Kt.sz];split at h
  ·cases h;omega
  ·have:=zez h;omega
 | .ins _ _::ks,r,h=>by have:=zez (ks:=ks) h;simp only[szK,Kt.sz];omega
 | .insD _ _ _ _::ks,r,h=>by have:=zez (ks:=ks) h;simp only[szK,Kt.sz];omega
 | .code _::ks,r,h=>by have:=zez (ks:=ks) h;simp only[szK,Kt.sz];omega
def rep:List (Nat × AV)->Nat->AV->List (Nat × AV)
 | [],t,v=>[(t,v)]
 | (k,w)::r,t,v=>if k=t then(t,v)::r else(k,w)::rep r t v
def St.rep(st:St)(d:Option Nat)(v:AV):St :=
 match d with
 | some t=>⟨Ab.rep st.sl t v,st.hp⟩
 | none=>st
def zgt(dead:List Nat):List (Nat × AV)->List (Nat × AV)
 | []=>[]
 | (k,w)::r=>if dead.elem k then zgt dead r else(k,w)::zgt dead r
def St.drop(st:St)(dead:List Nat):St:=⟨zgt dead st.sl,st.hp⟩
def St.dropI(st:St):List (List Nat)->St
 | []::_=>st
 | (a::l)::_=>st.drop (a::l)
 | []=>st
def zg8(P:Program)(st:St)(d:Nat)(f:FuncId)(vs:List AV)(K:PCall->AV->St->Prop):Prop :=
 ∃ c:PCall,c.ok P/\∃ v s,zcc (some c) st d f vs=some (v,s)/\K c v s
def zc1(P:Program)(st:St)(d:Nat)(f:AV)(vs:List AV)(K:PCall->AV->St->Prop):Prop :=
 match f with
 | .p (.fn f caps)=>zg8 P st d f (vs++caps.map .p) K
 | .fn f caps=>zg8 P st d f (vs++caps) K
 | .p (.bm f v)=>zg8 P st d f (.p v::vs) K
 | _=>False
def opnP(P:Program)(st:St)(d:Nat)(op:IOp)(K:Option PCall->AV->St->Prop):Prop :=
 match op with
 | .call f args=>zg8 P st d f (args.map st.ev) fun c=>K (some c)
 | .callv x args=>zc1 P st d (st.ev x) (args.map st.ev) fun c=>K (some c)
 | op=>runO (K none) (oc st d op)
def zje(st:St)(g:Option (Nat × Bool))(K:St->Prop)(J:St->Prop):Prop :=
 match g with
 | none=>K st
 | some (t,b)=>match st.get t with
  | .p (.bool c)=>(c=b->K (st.rep (some t) (.p (.bool b))))/\(c=(!b)->J (st.rep (some t) (.p (.bool !b))))
  | .skip=>J st
  | _=>False
def z3e:AV->Prop->Prop->Prop
 | .p (.bool t),A,B=>(t=true->A)/\(t=false->B)
 | _,_,_=>False
def semX(P:Program)(N:Nat)(Q:Exit->St->Prop):List Kt->Exit->St->Prop
 | [],ex,s=>Q ex s
 | .blk id::ks,ex,s=>match ex with
  | .exit j=>if j=id then semX P N Q ks .normal s else semX P N Q ks (.exit j) s
  | ex=>semX P N Q ks ex s
 | .code b::ks,ex,s=>match ex with
  | .normal=>∃ ex' s',Runs P N b.er s ex' s'/\semX P N Q ks ex' s'
  | ex=>semX P N Q ks ex s
 | .ins is _::ks,ex,s=>match ex with
  | .normal=>∃ gs s1 s2,Run P is gs s s1/\Weak s1 s2/\semX P N Q ks .normal s2
  | ex=>semX P N Q ks ex s
 | .insD is fs pre _::ks,ex,s=>match ex with
  | .normal=>∃ gs s1 s2,Run P is gs s s1/\chk [] 0 (fs++gs) pre=true/\Weak s1 s2/\semX P N Q ks .normal s2
  | ex=>semX P N Q ks ex s
def vL(P:Program)(N:Nat)(Q:Exit->St->Prop)(b:GC)(ks:List Kt)(st:St):Prop:=∃ ex s,Loops P N b.er st ex s/\semX P N Q ks ex s
def vm(P:Program)(N:Nat)(Q:Exit->St->Prop)(ks:List Kt)(st:St):Prop :=
 match ks with
 | []=>Q .normal st
 | .blk _::ks=>vm P N Q ks st
 | .ins [] dead::ks=>vm P N Q ks st
 | .ins (i::is) dead::ks=>zje st i.guard
   (fun st=>opnP P st (i.dst.getD 0) i.op fun _ v s=>vm P N Q (.ins is dead.tail::ks) ((s.rep i.dst v).dropI dead))
   (fun st=>vm P N Q (.ins is dead.tail::ks) ((st.rep i.dst .skip).dropI dead))
 | .insD [] fs pre dead::ks=>chk [] 0 fs pre=true/\vm P N Q ks st
 | .insD (i::is) fs pre dead::ks=>zje st i.guard
   (fun st=>opnP P st (i.dst.getD 0) i.op fun c v s=>vm P N Q (.insD is (fs++[fp c st i]) pre dead.tail::ks) ((s.rep i.dst v).dropI dead))
   (fun st=>vm P N Q (.insD is (fs++[fp none st i]) pre dead.tail::ks) ((st.rep i.dst .skip).dropI dead))
 | .code .nop::ks=>vm P N Q ks st
 | .code (.reg is dead)::ks=>vm P N Q (.ins is dead::ks) st
 | .code (.regD is pre dead)::ks=>vm P N Q (.insD is [] pre dead::ks) st
 | .code (.seq a b)::ks=>vm P N Q (.code a::.code b::ks) st
 | .code (.cond c dead a b)::ks=>z3e (st.ev c) (vm P N Q (.code a::ks) (st.drop dead)) (vm P N Q (.code b::ks) (st.drop dead))
 | .code (.blk id b)::ks=>vm P N Q (.code b::.blk id::ks) st
 | .code (.loop b)::ks=>vL P N Q b ks st
 | .code (.ext id)::ks=>match h:zaw id ks with
  | some ks'=>vm P N Q ks' st
  | none=>Q (.exit id) st
 | .code .ret::_=>Q .ret st
 | .code .bad::_=>False
 | .code (.cut b)::ks=>semX P N Q (.code b::ks) .normal st
 | .code (.scp _)::_=>False
termination_by szK ks
decreasing_by all_goals (try have:=zez h);simp only[szK,Kt.sz,GC.sz,yg2];(try have:=GC.sz_pos ‹GC›);omega
end Go.Ab
