/- Lemmas for the law ProjectApplies, part 16. No conditions. -/
import Derived.Test.YthhdboljpgdcpaaGreatDoorCP15
set_option maxRecDepth 100000
set_option maxHeartbeats 4000000
set_option linter.all false
namespace Go.Ab
open Enc (enc)
def Ht(P:Program)(f:FuncId)(vals:List Value)(i:RV):Prop :=
 (∃ h,P.funcs[f]?=some h/\h.body.isSome=true/\h.name ≠ "runtime.NumGoroutine") /\
 ∀ (w:World) (M:Nat->Option Obj),(∀ b o,M b=some o->w.heap[b]?=some o) ->
  Calls P f vals.toArray w λe w'=>∃ x d,e=.returned x/\(∀ b o,M b=some o->d b=some o)/\(∀ b o,d b=some o->w'.heap[b]?=some o) /\
   (∀ b o,d b=some o->M b=some o\/w.heap.size<=b)/\Keep w w' (λ_=>False)/\sq d w w' i x
section
variable {P:Program} {K:Ctx} {Z Z':Cz} {st st' st1:St} {w w':World} {a:Act} {N:Nat} {A B:Option FA} {Post:Exit->St->Option FA->Prop} {cC:St->Option FA->Prop} {v:AV}
theorem XA{d:Option Nat}{f:FuncId}{xs:List bP}{vals:List Value}{l:RV}(i:Ht P f vals l)(hv:∀ (Z:Cz) (S:List Value),aG Z st (xs.map st.ev) S->S=vals)(r:zN ⟨f,[],l,none⟩ st (d.getD 0) []=some (v,st1))(J:st1.sl=st.sl)
  (k:cC (st1.put d v) none):ql P N ⟨d,.call f xs,none⟩ st none cC:=by
 intro O j o K Z w a Q Kt Y hj C m hA X;obtain⟨U,y,V,W⟩:=EE C;obtain⟨u,h,I,hf,hh,p⟩:=MI U;have G:o.guard=none:=by
  cases G:o.guard with
  | none=>rfl
  | some jb =>
   obtain⟨j,b⟩:=jb;rw[G]at y;simp only[A3]at y;split at y<;>cases y
 have hw:Region.wanted o (yielded O a.tmps)=true:=by simp[Region.wanted,G]
 have hd:d=o.dst:=V;obtain⟨D,i⟩:=i;have hr:=CJ p m;have n:=fH hh m;simp only[St.ev]at n;have E:a.eval h=.func (.func f) #[] #[]:=by
  have R:=n.cF;generalize a.eval h=F at R ⊢;cases R with
  | fn _ _ vals h=>cases h;rfl
 have L:u.args.toList.map a.eval=vals:=hv Z _ (by simpa using hr);have t:(execOp a.eval o).run P w=.ok (.enter f vals.toArray) w:=by
  have:=Gq (P:=P) (w:=w) (args:=(u.args.toList.map a.eval).toArray) D;simp only[execOp,I,resolve,hf,E,Deferred.ofValue,mW,oJ,qF,invoke];have e : #[]++u.args.map a.eval ++ #[]=(u.args.toList.map a.eval).toArray:=by simp[<- Array.toList_map]
  rw[e,this,L]
 refine(show o.wp P a w Kt Q from ?_) |> λh=>by unfold wpOp;simp only[hj,hw,cH];exact .inl h
 unfold Oper.wp;rw[t,E2];have H:∀ b o,Mx Z st w [] b=some o->Z.M b=some o:=λb o z=>by
  obtain h|⟨_,_,s,g,ob,h,_⟩:=rM z
  .exact h
  .cases h
 refine(i w (Mx Z st w []) (λb o z=>m.heap.mem b o (H b o z))).mono ?_;rintro e w' ⟨x,M',rfl,p1,p2,p3,p4,p5⟩;obtain⟨Z',q1,q2,q3⟩:=Pp (c:=⟨f,[],l,none⟩) (vs:=[]) m.heap p1 p2 p3 p4 p5 r;refine X _ _ Z' _ _ k ?_ trivial;rw[hd];exact m.put J q3 q1 q2 (by subst Y;exact W) m.defers
theorem aA.Dk{t s sz:Nat}{es:List AV}(hp:s<fU):aA ⟨[(t,.own s 0 0 0)],[(s,[some ⟨sz,es⟩])]⟩ ⟨[(t,.own s 0 0 0)],[(s,[some ⟨sz,[]⟩])]⟩:=by
 intro K Z w a hs;have d:∀ (es:List AV) s' g' o',(⟨[(t,.own s 0 0 0)],[(s,[some ⟨sz,es⟩])]⟩:St).obj s' g'=some o'->s'=s/\g'=0/\o'=⟨sz,es⟩:=by
  intro es s' g' o' h;simp only[St.obj,St.site,look]at h;split at h
  .rename_i n;cases g' with
   | zero=>simp at h;exact⟨n.symm,rfl,h.symm⟩
   | succ g=>simp at h
  .simp at h
 have f:∀ es:List AV,(⟨[(t,.own s 0 0 0)],[(s,[some ⟨sz,es⟩])]⟩:St).obj s 0=some ⟨sz,es⟩:=λes=>by simp[St.obj,St.site,look]
 have r:=hs.heap.bT s 0 _ (f es);refine⟨Z,⟨λu=>?_,hs.defers,hs.size,⟨λs' g' o' h=>?_,λs1 E L F o1 J b k p _ _=>?_,hs.heap.mem,λs' g' o' b h i=>?_,λs' g' o' b h i=>?_,hs.heap.m0,hs.heap.eM,hs.heap.keep⟩⟩,⟨λu a _=>?_,λu g a _ l _=>?_,λu g o a _ m=>?_⟩⟩
 case refine_6=>simp only[St.site,look];split<;>simp
 case refine_7 =>
  simp only[St.site,look]at l;split at l
  .omega
  .simp at l
 case refine_8=>have:=(d _ _ _ _ m).1;omega
 .have hu:=hs.aY u;simp only[St.get,look]at hu ⊢;split at hu
  .rename_i j;simp only[j,cH];generalize a.tmps.getD u Go.undef=x at hu;cases hu with
   | d' _ _ o m i=>exact .d' _ _ _ (f []) i
   | own _ _ _ _ o b ad c m i k p h3 y=>exact .own _ _ _ _ _ b ad c (f []) i k (λh=>absurd h (by omega)) (by simp) y
   | eO _ _ _ _ _ _ _ hd=>rw[f]at hd;cases hd
  .rename_i j;simp only[j,fQ];exact .undef _
 .obtain⟨rfl,rfl,rfl⟩:=d _ _ _ _ h;refine⟨r.pos,by simp,by simp,λ_=>rfl,λb i=>?_⟩;obtain⟨cur,T,vals,z,G,H,C,I,D⟩:=r.bX b i;exact⟨cur,T,[],z,.nil,by simp,C,by simp,D⟩
 .obtain⟨rfl,rfl,_⟩:=d _ _ _ _ k;obtain⟨rfl,rfl,_⟩:=d _ _ _ _ p;exact⟨rfl,rfl⟩
 .obtain⟨rfl,rfl,rfl⟩:=d _ _ _ _ h;exact hs.heap.sep _ _ _ b (f es) i
 .obtain⟨rfl,rfl,rfl⟩:=d _ _ _ _ h;exact hs.heap.own _ _ _ b (f es) i
theorem Ht.cE{f:FuncId}{vals:List Value}{res:RV}{n np:Nat}{b:GC}{rs:List (Nat × Option Nat)}(d:aP P f=some ⟨n,np,b.er,rs⟩)(hn:vals.length<=n)
  (F:st.hp=[]) (y:∀ (M:Nat->Option Obj) (t:Nat),aQ ⟨M,λ_ _=>none,λ_ _=>0⟩ st (st.get t) ((vals.toArray++Array.replicate (n - vals.toArray.size) Go.undef).getD t Go.undef))
  (h:vm P n (λex s=>∃ s',aA s s'/\iD rs res ex s') [.code b] st):Ht P f vals res:=by
 have l:∀ s g,st.obj s g=none:=λs g=>by simp[St.obj,St.site,F,look]
 obtain⟨ex,s,k,s',V,j⟩:=lL _ (dE _) h;have k:=k.sU V;have U:(ex=.ret\/ex=.normal)/\∃ vs,oF s' rs=some vs/\pL s' (dD vs) res:=by
  have key:(ex=.ret\/ex=.normal)/\∃ vs,oF s' rs=some vs/\kO s' (dD vs) res:=by
   cases ex with
   | ret=>exact⟨.inl rfl,j⟩
   | normal=>exact⟨.inr rfl,j⟩
   | _=>exact j.elim
  obtain⟨W,vs,r3,p⟩:=key;refine⟨W,vs,r3,?_⟩;unfold kO at p;split at p
  .exact .pure _ _ p
  .split at p
   .rename_i sz es s' g off len G;obtain⟨o,C,rfl,D,rfl,R⟩:=p;rw[G];exact .fresh _ _ _ _ _ C D R
   .rename_i G;rw[G,p];exact .nil _
   .exact p.elim
  .exact p.elim
 obtain⟨E,vs,H,z⟩:=U;unfold aP at d;split at d
 .rename_i fn L;split at d
  .rename_i u;split at d
   .rename_i c J;split at d
    .rename_i bd ad C D;simp only[cD,Cv.mk.injEq]at d;obtain⟨rfl,_,rfl,rfl⟩:=d;refine⟨⟨fn,L,by rw[J];rfl,u⟩,λw M S=>?_⟩;refine calls_of_wp L J ?_;refine k _ C ⟨w,M,λ_=>False,fn.ntmps⟩ ⟨M,λ_ _=>none,λ_ _=>0⟩ w _ _ rfl ⟨y M,rfl,by simp;omega,⟨λs g o i=>(by rw[l]at i;cases i),λs g _ _ o _ b i=>(by rw[l]at i;cases i),S,λs g o b i=>(by rw[l]at i;cases i),λs g o b i=>(by rw[l]at i;cases i),λ_ _ h=>h,λ_ _ h=>.inl h,Keep.refl w _⟩⟩ (λZ' w' I hs _=>?_)
     have m:I.defers=[]/\∃ v,(results fn I.tmps).run P w'=.ok v w'/\∃ x M',Ending.returned v=.returned x/\(∀ b o,M b=some o->M' b=some o)/\(∀ b o,M' b=some o->w'.heap[b]?=some o) /\
       (∀ b o,M' b=some o->M b=some o\/w.heap.size<=b)/\Keep w w' (λ_=>False)/\sq M' w w' res x:=by
      obtain⟨xs,O,Q⟩:=D7 hs D H;obtain⟨M',X,Y,m3,m4,m5⟩:=LN hs.heap Q.dD z;refine⟨hs.defers,_,?_,_,M',rfl,X,Y,m3,m4,m5⟩;unfold results;rw[EY];simp only[mW,map_eq_pure_bind,oJ];exact congrArg (λr=>(Result.andThen r λa w'=>Result.ok a.toArray w').andThen λ(a:Array Value) w'=>Result.ok (if h:a.size=1 then a[0]else Value.tuple a) w') O
     obtain rfl|rfl:=E
     .exact m
     .exact m
    .cases d
   .cases d
  .cases d
 .cases d
end
section
variable {P:Program} {K:Ctx} {Z Z':Cz} {st st':St} {w w':World} {a:Act}
def bG.yP(h:bG K Z st w){s g:Nat}{o:bI}(k:st.obj s g=some o){es:List AV}(hl:es.length=o.es.length)(F:∀ e∈es,e.sz=o.sz)(h3:∀ c∈es.flatMap AV.cells,c.one=true)
  (G:∀ b,Z.B s g=some b->∃ (cur:Array Value) (T:TypeId) (vals:List Value),w.heap[b]?=some (.cells cur T (0,0))/\aG Z st (es.flatMap AV.cells) vals /\
   (∀ (i:Nat) (v:Value),vals[i]?=some v->cur[i]?=some v)/\cur.size=Z.cap s g*o.sz/\o.es.length<=Z.cap s g/\Z.cap s g<=maxLen):bG K Z (st.setObj s g ⟨o.sz,es⟩) w:=by
 have n:=nQ k;have hz:=cP.setObj Z st s g o ⟨o.sz,es⟩ k rfl hl;have old:∀ {s' g':Nat} {o':bI},(st.setObj s g ⟨o.sz,es⟩).obj s' g'=some o'->∃ L,st.obj s' g'=some L:=by
  intro s' g' o' d;rw[vF _ _ _ _ _ _ n]at d;split at d
  .rename_i m;obtain⟨rfl,rfl⟩:=m;exact⟨o,k⟩
  .exact⟨o',d⟩
 refine⟨λs' g' o' d=>?_,λs' g' M E o' J b a1 p f r=>?_,h.mem,λs' g' o' b a1 f=>?_,λs' g' o' b a1 f=>?_,h.m0,h.eM,h.keep⟩
 .rw[vF _ _ _ _ _ _ n]at d;split at d
  .rename_i m;obtain⟨rfl,rfl⟩:=m;cases d;obtain⟨H,O,Q,I,R⟩:=h.bT s' g' o k;refine⟨H,F,h3,λl=>List.eq_nil_of_length_eq_zero (by rw[hl,I l];rfl),λb l=>?_⟩;obtain⟨cur,T,vals,u,x,y,z,C,D⟩:=G b l;exact⟨cur,T,vals,u,aG.mono hz x,y,z,by simpa[hl]using C,D⟩
  .exact(h.bT s' g' o' d).later hz rfl rfl (λ_ _=>rfl)
 .obtain⟨o1,j⟩:=old a1;obtain⟨S,t⟩:=old p;exact h.inj _ _ _ _ _ _ b j t f r
 .obtain⟨o1,j⟩:=old a1;exact h.sep _ _ _ b j f
 .obtain⟨o1,j⟩:=old a1;exact h.own _ _ _ b j f
theorem RM:∀ (ids:List (Nat × Nat)) {st:St} {s g:Nat} {o:bI},st.obj s g=some o->(s,g)∉ids->(aI st ids).obj s g=some o
 | [],_,_,_,_,h,_=>h
 | (f,d)::r,st,s,g,o,h,b=>by simp only[cI,c5,not_or]at b;rw[I7];refine RM r ?_ b.2;rw[BS,bD b.1];exact h
end
section
variable {P:Program} {K:Ctx} {Z Z':Cz} {st st':St} {w w':World} {a:Act}
def yi:List AV->List AV->Prop
 | [],[]=>True
 | x::l,y::r=>(x=y\/(x=.p .any/\y.one=true))/\yi l r
 | _,_=>False
theorem yi.G8:∀ {l r:List AV} {vals:List Value},yi l r->aG Z st r vals->aG Z st l vals
 | [],[],_,_,h=>h
 | [],_::_,_,h,_=>h.elim
 | _::_,[],_,h,_=>h.elim
 | x::l,y::r,_,h,.cons _ v _ vs b d=>by
  refine .cons _ _ _ _ ?_ (yi.G8 h.2 d);obtain rfl|⟨rfl,f⟩:=h.1
  .exact b
  .exact .p _ _ (.any _ (aQ.gF b f))
theorem yi.one:∀ {l r:List AV},yi l r->(∀ c∈r,c.one=true)->∀ c∈l,c.one=true
 | [],[],_,_,c,b=>by cases b
 | [],_::_,h,_,_,_=>h.elim
 | _::_,[],h,_,_,_=>h.elim
 | x::l,y::r,h,d,c,b=>by
  obtain rfl|b:=cI.1 b
  .obtain rfl|⟨rfl,_⟩:=h.1
   .exact d _ List.mem_cons_self
   .rfl
  .exact yi.one h.2 (λc b=>d c (tX _ b)) c b
theorem aA.pG{s g:Nat}{o:bI}(es:List AV)(d:st.obj s g=some o)(hl:es.length=o.es.length)(r:∀ e∈es,e.sz=o.sz)(i:yi (es.flatMap AV.cells) (o.es.flatMap AV.cells)):aA st (st.setObj s g ⟨o.sz,es⟩):=by
 intro K Z w a hs;have h:=hs.heap.bT s g o d;have hz:=cP.setObj Z st s g o ⟨o.sz,es⟩ d rfl hl;have f:=hs.heap.yP d hl r (i.one h.one) (λb t=>by
  obtain⟨cur,T,vals,j,k,l,m,n,p⟩:=h.bX b t;exact⟨cur,T,vals,j,i.G8 k,l,m,n,p⟩)
 refine⟨Z,⟨λu=>?_,hs.defers,hs.size,f⟩,.dW hz⟩;rw[show(st.setObj s g ⟨o.sz,es⟩).get u=st.get u from rfl];exact aQ.mono hz (hs.aY u)
end
def Ou(rs:List (Nat × Option Nat))(b:RV)(f:Exit)(s:St):Prop:=∃ d,aA s d/\iD rs b f d
def Sp.uV{P:Program}{f:FuncId}{args:List PV}{res:RV}{n np:Nat}{b:GC}{rs:List (Nat × Option Nat)}(p:aP P f=some ⟨n,np,b.er,rs⟩)(hn:args.length<=n)(h:vm P n (Ou rs res) [.code b] (vy args)):Sp P f args res:=by
 obtain⟨ex,y,u,s,r,j⟩:=lL _ (dE _) h;have key:(ex=.ret\/ex=.normal)/\∃ vs,oF s rs=some vs/\kO s (dD vs) res:=by
  cases ex with
  | ret=>exact⟨.inl rfl,j⟩
  | normal=>exact⟨.inr rfl,j⟩
  | _=>exact j.elim
 obtain⟨t,vs,x,d⟩:=key;refine Sp.gG p hn (cU.sU u r) t x ?_;unfold kO at d;split at d
 .exact .pure _ _ d
 .split at d
  .rename_i sz es s' g off len i;obtain⟨o,k,rfl,l,rfl,m⟩:=d;rw[i];exact .fresh _ _ _ _ _ k l m
  .rename_i i;rw[i,d];exact .nil _
  .exact d.elim
 .exact d.elim
end Go.Ab
namespace Go.Ab
open Enc (enc)
attribute [local simp] iJ bP.aY
def wS:PV:=.agg [.fn 193 [],.fn 195 [],.fn 196 [],.fn 198 [],.fn 200 [],.fn 202 [],.fn 203 [],.fn 204 [],.fn 206 []]
def Bk:PV:=.agg [.fn 234 [],.fn 236 [],.fn 237 [],.fn 239 [],.fn 241 [],.fn 243 [],.fn 203 [],.fn 245 [],.fn 248 []]
def DB(x:PV):PV:=.agg [.fn 218 [],.fn 195 [],.fn 196 [],.fn 222 [x],.fn 200 [],.fn 278 [.ref (.fn 196 [])],.fn 221 [],.fn 204 [],.fn 223 [x]]
def DE(x:PV):PV:=.agg [.fn 207 [],.fn 208 [],.fn 209 [],.fn 210 [],.fn 212 [],.fn 278 [.ref (.fn 209 [])],.fn 211 [],.fn 213 [],.fn 216 [x]]
def bR(x:PV):PV:=.agg [.fn 224 [],.fn 225 [],.fn 226 [],.fn 227 [],.fn 228 [],.fn 278 [.ref (.fn 226 [])],.fn 203 [],.fn 229 [],.fn 232 [x]]
def tB:PV:=.agg [.fn 218 [],.fn 195 [],.fn 196 [],.any,.fn 200 [],.fn 278 [.ref (.fn 196 [])],.fn 221 [],.fn 204 [],.any]
def Bu:PV:=.agg [.fn 207 [],.fn 208 [],.fn 209 [],.fn 210 [],.fn 212 [],.fn 278 [.ref (.fn 209 [])],.fn 211 [],.fn 213 [],.any]
def Bh:PV:=.agg [.fn 224 [],.fn 225 [],.fn 226 [],.fn 227 [],.fn 228 [],.fn 278 [.ref (.fn 226 [])],.fn 203 [],.fn 229 [],.any]
def Bs:PV:=DB (.ref tB)
def Bv:PV:=DE (.ref Bu)
def Bi:PV:=bR (.ref Bh)
def MX:zS 163 [] wS:=by refine Sp.vz c.gv λ_=>?_;simp[g.gv,wS]
def V6:zS 167 [] Bk:=by refine Sp.vz c.o5 λ_=>?_;simp[g.o5,Bk]
def KX(f:FuncId):zS 215 [.fn f []] (.fn 278 [.ref (.fn f [])]):=by refine Sp.vz c.ig λ_=>?_;simp[g.ig,bH]
def Vz:zS 165 [] Bs:=by
 refine Sp.uV c.oy (by simp) ?_;simp[g.oy];refine bA MX rfl ?_;simp[wS];refine bA (KX 196) rfl ?_;simp;refine⟨_,aA.pG (s:=1) (g:=0) [.p tB] rfl rfl (by simp[tB]) ?_,?_⟩
 .simp[tB,yi,AV.cells]<;>decide
 simp[bH,iD,kO,oF,BJ,dD,Bs,DB,St.setObj]
def yca:zS 164 [] Bv:=by
 refine Sp.uV c.ox (by simp) ?_;simp[g.ox];refine bA (KX 209) rfl ?_;simp;refine⟨_,aA.pG (s:=1) (g:=0) [.p Bu] rfl rfl (by simp[Bu]) ?_,?_⟩
 .simp[Bu,yi,AV.cells]<;>decide
 simp[bH,iD,kO,oF,BJ,dD,Bv,DE,St.setObj]
def yet:zS 166 [] Bi:=by
 refine Sp.uV c.oz (by simp) ?_;simp[g.oz];refine bA (KX 226) rfl ?_;simp;refine⟨_,aA.pG (s:=1) (g:=0) [.p Bh] rfl rfl (by simp[Bh]) ?_,?_⟩
 .simp[Bh,yi,AV.cells]<;>decide
 simp[bH,iD,kO,oF,BJ,dD,Bi,bR,St.setObj]
def xI(k:Int):PV:=if k=1 then wS else if k=2 then Bv else if k=3 then Bs else if k=4 then Bi else Bk
def CE(k:Int)(b:1<=k/\k<=5):zS 123 [.int .i64 k] (xI k):=by
 have:k=1\/k=2\/k=3\/k=4\/k=5:=by omega
 obtain rfl|rfl|rfl|rfl|rfl:=this
 .refine Sp.vz c.ak λ_=>?_;simp[g.ak];refine bA MX rfl ?_;simp[xI,wS]
 .refine Sp.vz c.ak λ_=>?_;simp[g.ak];refine bA yca rfl ?_;simp[xI,Bv,DE]
 .refine Sp.vz c.ak λ_=>?_;simp[g.ak];refine bA Vz rfl ?_;simp[xI,Bs,DB]
 .refine Sp.vz c.ak λ_=>?_;simp[g.ak];refine bA yet rfl ?_;simp[xI,Bi,bR]
 .refine Sp.vz c.ak λ_=>?_;simp[g.ak];refine bA V6 rfl ?_;simp[xI,Bk]
def PU(k:Int):zS 139 [.int .i64 k] (.bool (decide (1<=k/\k<=5))):=by refine Sp.vz c.j4 λ_=>?_;simp[g.j4];refine⟨λh=>by simp[h],λh=>by simp[show ¬ 1<=k by omega]⟩
def YN(k:Int):zS 141 [.int .i64 k] (.bool (!decide (1<=k/\k<=5))):=by refine Sp.vz c.j5 λ_=>?_;simp[g.j5];refine bA (PU k) rfl ?_;simp
def A8(r:aC):zS 98 [enc r] (.bool r.ok):=by
 refine Sp.vz c.bi λj=>?_;simp[g.bi];refine⟨λb=>⟨λf=>⟨λi=>?_,λi=>?_⟩,λf=>?_⟩,λb=>?_⟩
 .refine bA (ygm r.parts 141 [] (λk=>!decide (1<=k/\k<=5)) (by omega) λk _=>YN k) rfl ?_;have:r.ok = !(r.parts.any λk=>!decide (1<=k/\k<=5)):=by
   rw[Bool.eq_iff_iff];simp only[aC.ok,aX b,decide_eq_true_eq,Ny,List.any_eq_false];constructor
   .intro h x l;have:=h.2.2 x l;simp[this]
   .intro h;exact⟨by omega,by omega,λk d=>by have:=h k d;simpa using this⟩
  simp[this]
 .simp[aC.ok,b];intro h;omega
 .simp[aC.ok,b];intro h;omega
 .refine bA (PU r.kind) rfl ?_;by_cases d:1<=r.kind/\r.kind<=5
  .simp[d,aC.ok,b]
  .have:r.ok=false:=by simp only[aC.ok,bD b,decide_eq_false_iff_not];omega
   simp[d,this]
def Fm(w:GW)(q:aT)(c:Int)(i:Bool)(s:UInt64)(p:List aF)(ps:List GW):w=.mk q c i s p ps ↔ w.q=q/\w.cost=c/\w.inf=i/\w.set=s/\w.aR=p/\w.parts=ps:=by cases w;simp[GW.q,GW.cost,GW.inf,GW.set,GW.aR,GW.parts]
def OJ(w:GW)(i:w.sm 1048576):zS 193 [enc w] (.bool (decide (w.si 1))):=by
 refine Sp.vz c.gw λ_=>?_;simp[g.gw];refine bA (Mp w.q (i.q.mono (by omega))) rfl ?_;obtain f|f:=iK w.q.valid
 .simp[f];refine aW (CV w i (.mk w.q 0 false 0 [] [])) ?_;simp;rw[xZ,Fm];simp[f];exact⟨λ⟨a,b,c,d,e⟩=>⟨e,b,a,c,d⟩,λ⟨e,b,a,c,d⟩=>⟨a,b,c,d,e⟩⟩
 .have:¬ w.si 1:=λh=>by have:=(xZ.1 h).2.2.2.2.2;rw[f]at this;cases this
  simp[f,this]
def yau(w:GW)(i:w.sm 1048576):zS 234 [enc w] (.bool (decide (w.si 5))):=by
 refine Sp.vz c.ik λ_=>?_;simp[g.ik];refine bA (Qe w.aR i.aR (by have:=i.len;omega)) rfl ?_;by_cases f:bS w.aR
 .simp[f];refine aW (CV w i (.mk dP 0 false 0 w.aR [])) ?_;simp;rw[Aq,Fm];simp[f];exact⟨λ⟨a,b,c,d,e⟩=>⟨e,a,c,b,d⟩,λ⟨e,a,c,b,d⟩=>⟨a,b,c,d,e⟩⟩
 .have:¬ w.si 5:=λh=>f (Aq.1 h).2.2.2.2.2;simp[f,this]
def WQ(w:GW)(f:w.sm 1048576):zS 224 [enc w] (.bool (decide (w.si 4))):=by refine Sp.vz c.ep λ_=>?_;simp[g.ep];refine aW (CV w f (.mk dP 0 false w.set [] [])) ?_;simp;rw[Bf,Fm];simp;exact⟨λ⟨a,b,c,d,e⟩=>⟨e,a,c,b,d⟩,λ⟨e,a,c,b,d⟩=>⟨a,b,c,d,e⟩⟩
def yce(w:GW)(l:w.sm 1048576):zS 207 [enc w] (.bool (decide (w.si 2))):=by
 refine Sp.vz c.d7 λ_=>?_;simp[g.d7];have j:¬ (0<=w.cost/\w.cost<=1099511627776/\(w.inf=true->w.cost=0))->¬ w.si 2:=λh f=>h (pY.1 f).2.2.2.2;refine⟨λk=>⟨λf=>?_,λf=>?_⟩,λk=>?_⟩
 .obtain hi|hi:=iK w.inf
  .simp[hi];refine⟨λi=>?_,λi=>j (λh=>i (h.2.2 hi))⟩;refine bA (CV w l (.mk dP w.cost true 0 [] [])) (by simp[hi]) ?_;simp;rw[pY,Fm];simp[hi,i];exact⟨λ⟨a,b,c,d⟩=>⟨d,a,b,c⟩,λ⟨d,a,b,c⟩=>⟨a,b,c,d⟩⟩
  .simp[hi];refine bA (CV w l (.mk dP w.cost false 0 [] [])) (by simp[hi]) ?_;simp;rw[pY,Fm];simp[hi,k,f];exact⟨λ⟨a,b,c,d⟩=>⟨d,a,b,c⟩,λ⟨d,a,b,c⟩=>⟨a,b,c,d⟩⟩
 .exact j (by omega)
 .exact j (by omega)
def yew:zS 267 [.int .i64 1,.int .i64 1] (.bM [enc (cR 1),.int .i64 0]):=by have h:=yac 1 1 (by omega) (by omega);have b:Rat.divInt 1 1=1:=rfl;simp[b]at h;exact h
def MF:zS 197 [.int .i64 1] (enc (.mk (cR 1) 0 false 0 [] []:GW)):=by refine Sp.vz c.g9 λ_=>?_;simp[g.g9];refine bA yew rfl ?_;simp
def Zu{x y:Rat}:x<y ↔ (x - y).num<0:=by
 rw[Rat.lt_iff_sub_pos];have:(x - y) = -(y - x):=by rw[Rat.neg_sub]
 rw[this,Rat.neg_num];have b:0<=y - x ↔ 0<=(y - x).num:=Rat.num_nonneg.symm;have d:(y - x)=0 ↔ (y - x).num=0:=Rat.num_eq_zero.symm;rw[Rat.lt_iff_le_and_ne,b,ne_comm,Ne,d];omega
def ya8(x y:Rat):(x - y).num = -(y - x).num:=by
 have:(x - y) = -(y - x):=by rw[Rat.neg_sub]
 rw[this,Rat.neg_num]
def SR{x y:Rat}:0<kM (x - y) ↔ y<x:=by rw[Zu];have:=ya8 x y;unfold kM;(repeat' split)<;>omega
def ZW{x y:Rat}:kM (x - y)<=0 ↔ x<=y:=by rw[<- Rat.not_lt,<- SR];omega
def ybt(w:GW)(j:w.sm 1048576):zS 218 [enc w] (.bool (decide (w.si 3))):=by
 refine Sp.vz c.ef λ_=>?_;simp[g.ef];refine bA MX rfl ?_;simp[wS];refine aW (OJ w j) ?_;have k:w.si 3 ↔ w.si 1/\0<=w.q.v/\w.q.v<=1:=by rw[wP,xZ];exact⟨λ⟨a,b,c,d,e,f,g,h⟩=>⟨⟨a,b,c,d,e,f⟩,g,h⟩,λ⟨⟨a,b,c,d,e,f⟩,g,h⟩=>⟨a,b,c,d,e,f,g,h⟩⟩
 by_cases i:w.si 1
 .simp[i];refine bA (Iq w.q (j.q.mono (by omega))) rfl ?_;simp;refine⟨λl=>?_,λl=>?_⟩
  .refine bA MF rfl ?_;simp;refine bA (Rp w.q (cR 1) j.q (D8.mono (by omega))) rfl ?_;simp;rw[kW];have m:=I6.1 l;rw[ZW,k];simp[i,m]
  .have:¬ 0<=w.q.v:=λh=>by have:=I6.2 h;omega
   simp[k,this]
 .simp[k,i]
def mP(k:Int):GW:=.mk dP 0 (decide (k=2)) 0 [] []
def aC.zero(r:aC):GW:=if r.ok then .mk dP 0 (decide (r.kind=2)) 0 [] (r.parts.map mP)else Dy
def yd6(r:aC)(h:r.parts=[]):zS 23 [enc r] (enc r.zero):=by
 refine Sp.vz c.ba λ_=>?_;simp[g.ba];refine bA (oG r) rfl ?_;obtain b|b:=iK r.ok;rotate_left
 .simp[b,aC.zero,Dy]
 simp[b];refine jT λR f i d=>?_;simp[g.td,h];refine d _ _ ?_;simp[b,aC.zero,h]
def F2(r:aC):zS 23 [enc r] (enc r.zero):=by
 refine Sp.vz c.ba λ_=>?_;simp[g.ba];refine bA (oG r) rfl ?_;obtain b|b:=iK r.ok;rotate_left
 .simp[b,aC.zero,Dy]
 simp[b]
 refine b6 (S:=λk:Nat=>aB [(1,.ptr 1 0 0 0),(2,.ptr 2 0 0 0),(3,.ptr 3 0 0 0),(4,.p (.int .i64 k))]
   [(1,⟨2,[.p (enc r)]⟩),(2,⟨8,[.agg [.p (.bool false),.nil,.nil,.p (.int .i64 0),.p (.bool false),.p (.int .u64 0),.nil,.nil]]⟩),
    (3,⟨8,[.agg [.p (.bool false),.nil,.nil,.p (.int .i64 0),.p (.bool (decide (r.kind=2))),.p (.int .u64 0),.nil,.own 4 0 0 k]]⟩),(4,⟨8,aK ((r.parts.map mP).take k)⟩)])
  (I:=λk=>k<=r.parts.length) (m:=λk=>r.parts.length - k) 0
  ((aA.b5 (s0:=3) (g0:=0) (i:=7) (s:=77) (sz:=8) rfl).trans (aA.to [1,2,3,4] [((1,0),1),((2,0),2),((3,0),3),((77,0),4)] (by simp))) (by omega) ?_
 rintro k z R t C x;have l:r.parts.length<=3:=by
  by_cases d:r.kind=6
  .exact(aC.bQ b d).2.1
  .simp[(aC.cJ b d).2.2]
 have n:=aZ k;simp[g.td,aB];refine⟨λf=>?_,λf=>x _ _ ?_⟩
 .have d:r.kind=6:=by
   by_cases d:r.kind=6
   .exact d
   .have:=(aC.cJ b d).2.2;rw[this]at f;simp at f
  have j:=(aC.bQ b d).2.2 _ (bU f);refine bA (FZ r k f) rfl ?_;simp;refine bA (yd6 ⟨r.parts[k],[]⟩ rfl) rfl ?_;have y:(⟨r.parts[k],[]⟩:aC).zero=mP r.parts[k]:=by
   have o:r.parts[k]≠6:=by omega
   simp[aC.zero,aC.ok,o,j,mP]
  have h:k<(r.parts.map mP).length:=by simpa using f
  rw[y];simp[n];refine⟨by omega,t (k+1) _ (aA.to [1,2,3,4] [((1,0),1),((2,0),2),((3,0),3),((28,0),4)] (by simp[ed h,sR])) (by omega) (by omega)⟩
 .have:k=r.parts.length:=by omega
  subst this;have u:(r.parts.map mP).take r.parts.length=r.parts.map mP:=by rw[eZ (by simp)]
  simp[b,aC.zero];simp only[u]
def Gm(r:aC)(w:GW)(b:w.sm 1048576):zS 31 [enc r,enc w] (.bool (decide (w=r.zero))):=by refine Sp.vz c.ch λ_=>?_;simp[g.ch];refine aW (F2 r) ?_;simp;refine aW (Iy w b r.zero) ?_;simp
noncomputable def GW.tk(r:aC)(w:GW):GW:=if w.aJ r then w else r.zero
def L8:dP.valid=true:=by have:=vD 0;rw[yA]at this;exact this
def Dn{k:Int}{w:GW}(h:w.si k):w.q.valid=true:=by
 by_cases b:k=1
 .exact h.2.2.2.2.2.1 b
 .by_cases d:k=3
  .exact(h.2.2.2.2.2.2.2.1 d).1
  .rw[h.2.1 b d];exact L8
def jJ{k:Int}{w:GW}(h:w.si k):bS w.aR:=by
 by_cases b:k=5
 .exact h.2.2.2.2.2.2.2.2 b
 .rw[h.2.2.2.2.1 b];exact D1
def TS{r:aC}{w:GW}(h:w.aJ r):w.q.valid=true:=by
 by_cases b:r.kind=6
 .have:=(h.2.2 b).2.1;rw[this];exact L8
 .exact Dn (h.2.1 b)
def BA{r:aC}{w:GW}(h:w.aJ r):bS w.aR:=by
 by_cases b:r.kind=6
 .have:=(h.2.2 b).2.1;rw[this];exact D1
 .exact jJ (h.2.1 b)
def tO{k:Int}(h:1<=k/\k<=5):(⟨k,[]⟩:aC).ok=true:=by
 have b:k≠6:=by omega
 simp[aC.ok,b,h]
def CN{r:aC}{w:GW}(h:w.aJ r)(d:r.kind=6){i:Nat}(f:i<r.parts.length)(b:i<w.parts.length):w.parts[i].aJ ⟨r.parts[i],[]⟩:=by have k:=(aC.bQ h.1 d).2.2 _ (bU f);refine⟨tO k,λ_=>(h.2.2 d).2.2 i f b,λj=>?_⟩;simp at j;omega
def yef(r:aC)(w:GW)(d:w.sm 1048576)(h:w.parts=[]):zS 82 [enc r,enc w] (enc (w.tk r)):=by
 refine Sp.vz c.an λ_=>?_;simp[g.an];refine aW (F8 r w d) ?_;by_cases b:w.aJ r;rotate_left
 .simp[b,GW.tk];refine aW (F2 r) ?_;simp
 simp[b,GW.tk];refine bA (zV w.q (d.q.mono (by omega))) rfl ?_;rw[sx (TS b)];simp;refine bA (Ee w.aR d.aR (by have:=d.len;omega)) rfl ?_;rw[zG (BA b)];simp;refine jT λR i j f=>?_;simp[g.tu,h];refine f _ _ ?_;simp[h]
def lQ(r:aC)(w:GW)(l:w.sm 1048576):zS 82 [enc r,enc w] (enc (w.tk r)):=by
 refine Sp.vz c.an λ_=>?_;simp[g.an];refine aW (F8 r w l) ?_;by_cases b:w.aJ r;rotate_left
 .simp[b,GW.tk];refine aW (F2 r) ?_;simp
 simp[b,GW.tk];refine bA (zV w.q (l.q.mono (by omega))) rfl ?_;rw[sx (TS b)];simp;refine bA (Ee w.aR l.aR (by have:=l.len;omega)) rfl ?_;rw[zG (BA b)];simp
 refine b6 (S:=λk:Nat=>aB [(2,.ptr 1 0 0 0),(3,.ptr 2 0 0 0),(4,.ptr 3 0 0 0),(5,.ptr 4 0 0 0),(6,.p (.int .i64 k))]
   [(1,⟨2,[.p (enc r)]⟩),(2,⟨8,[.p (enc w)]⟩),(3,⟨8,[.agg [.p (.bool false),.nil,.nil,.p (.int .i64 0),.p (.bool false),.p (.int .u64 0),.nil,.nil]]⟩),
    (4,⟨8,[.agg [.p (.bool w.q.neg),.p (.sl (ens w.q.num)),.p (.sl (ens w.q.den)),.p (.int .i64 w.cost),.p (.bool w.inf),.p (.int .u64 w.set.toNat),.p (.sl (ens w.aR)),.own 5 0 0 k]]⟩),(5,⟨8,aK (w.parts.take k)⟩)])
  (I:=λk=>k<=w.parts.length) (m:=λk=>w.parts.length - k) 0
  ((aA.b5 (s0:=5) (g0:=0) (i:=7) (s:=77) (sz:=8) rfl).trans (aA.to [2,3,4,5,6] [((2,0),1),((3,0),2),((4,0),3),((5,0),4),((77,0),5)] (by simp))) (by omega) ?_
 rintro k C R x E z;have t:=l.uU;have u:=aZ k;simp[g.tu,aB];refine⟨λd=>?_,λd=>z _ _ ?_⟩
 .have j:r.kind=6:=by
   by_cases j:r.kind=6
   .exact j
   .have:=(b.2.1 j).1;rw[this]at d;simp at d
  have D:=(b.2.2 j).1;have f:k<r.parts.length:=by omega
  refine bA (FZ r k f) rfl ?_;simp;refine bK d ?_;have h:=CN b j f d;have n:w.parts[k].parts=[]:=((b.2.2 j).2.2 k f d).1;refine aW (yef ⟨r.parts[k],[]⟩ w.parts[k] (l.parts _ (bU d)) n) ?_;have y:w.parts[k].tk ⟨r.parts[k],[]⟩=w.parts[k]:=aX h;rw[y];have o:aK (w.parts.take (k+1))=aK (w.parts.take k)++[.p (enc w.parts[k])]:=by rw[ed d,sR];rfl
  simp[u];refine⟨by omega,x (k+1) _ (aA.to [2,3,4,5,6] [((1,0),1),((2,0),2),((3,0),3),((4,0),4),((45,0),5)] (by simp[o])) (by omega) (by omega)⟩
 .have:k=w.parts.length:=by omega
  subst this;simp
def kF(a b c d e:FuncId)(k:Int):FuncId:=if k=1 then a else if k=2 then b else if k=3 then c else if k=4 then d else e
def UR:=kF 193 207 218 224 234
def UQ:=kF 195 208 195 225 236
def UP:=kF 196 209 196 226 237
def UO:=kF 198 210 222 227 239
def US(k:Int):List PV:=if k=3 then[.ref tB]else[]
def UN:=kF 200 212 200 228 241
def ym(k:Int)(j:1<=k/\k<=5):∃ f f6 h i b d,xI k=.agg [.fn (UR k) [],.fn (UQ k) [],.fn (UP k) [],.fn (UO k) (US k),.fn (UN k) [],.fn f b,.fn f6 [],.fn h [],.fn i d]:=by
 have:k=1\/k=2\/k=3\/k=4\/k=5:=by omega
 obtain rfl|rfl|rfl|rfl|rfl:=this<;>exact⟨_,_,_,_,_,_,rfl⟩
def R3(k:Int)(d:1<=k/\k<=5)(w:GW)(b:w.sm 1048576):Sp P (UR k) [enc w] (.pure (.bool (decide (w.si k)))):=by
 have:k=1\/k=2\/k=3\/k=4\/k=5:=by omega
 obtain rfl|rfl|rfl|rfl|rfl:=this
 .exact OJ w b
 .exact yce w b
 .exact ybt w b
 .exact WQ w b
 .exact yau w b
def OK:zS 195 [] (enc (.mk dP 0 false 0 [] []:GW)):=by refine Sp.vz c.bv λ_=>?_;simp[g.bv]
def Wi:zS 225 [] (enc (.mk dP 0 false 0 [] []:GW)):=by refine Sp.vz c.eq λ_=>?_;simp[g.eq]
def yat:zS 236 [] (enc (.mk dP 0 false 0 [] []:GW)):=by refine Sp.vz c.im λ_=>?_;simp[g.im]
def ycd:zS 208 [] (enc (.mk dP 0 true 0 [] []:GW)):=by refine Sp.vz c.d8 λ_=>?_;simp[g.d8]
def O'(k:Int)(b:1<=k/\k<=5):Sp P (UQ k) [] (.pure (enc (mP k))):=by
 have:k=1\/k=2\/k=3\/k=4\/k=5:=by omega
 obtain rfl|rfl|rfl|rfl|rfl:=this
 .exact OK
 .exact ycd
 .exact OK
 .exact Wi
 .exact yat
def HC(r:aC)(hp:∀ k∈r.parts,1<=k/\k<=5)(M:r.parts.length<=3)(f:FuncId)(d:List PV)(b:List GW)(O:b.length=r.parts.length)
  (x:∀ i,(h:i<r.parts.length)->(J:i<b.length)->Sp P f (xI r.parts[i]::.int .i64 i::d) (.pure (enc b[i]))) :
  zS 124 [enc r,.fn f d] (enc (.mk dP 0 false 0 [] b:GW)):=by
 refine Sp.vz c.dz λ_=>?_;simp[g.dz]
 refine b6 (S:=λk:Nat=>aB [(1,.p (.fn f d)),(4,.ptr 1 0 0 0),(5,.ptr 2 0 0 0),(9,.p (.sl (ens r.parts))),(10,.p (.int .i64 r.parts.length)),(11,.p (.int .i64 k))]
   [(1,⟨8,[.agg [.p (.bool false),.nil,.nil,.p (.int .i64 0),.p (.bool false),.p (.int .u64 0),.nil,.nil]]⟩),
    (2,⟨8,[.agg [.p (.bool false),.nil,.nil,.p (.int .i64 0),.p (.bool false),.p (.int .u64 0),.nil,.own 3 0 0 k]]⟩),(3,⟨8,aK (b.take k)⟩)])
  (I:=λk=>k<=r.parts.length) (m:=λk=>r.parts.length - k) 0
  ((aA.b5 (s0:=5) (g0:=0) (i:=7) (s:=77) (sz:=8) rfl).trans (aA.to [1,4,5,9,10,11] [((4,0),1),((5,0),2),((77,0),3)] (by simp))) (by omega) ?_
 rintro k L R y Q z;have u:=aZ k;simp[g.wc,aB];refine⟨λl=>?_,λl=>z _ _ ?_⟩
 .have n:k<b.length:=by omega
  refine bK l ?_
  try simp
  refine bA (CE r.parts[k] (hp _ (bU l))) rfl ?_;obtain⟨E,F,G,H,C,D,t⟩:=ym r.parts[k] (hp _ (bU l));have j:=x k l n;rw[t]at j;simp[t];refine bA j (kX rfl (kX rfl (yn _ _))) ?_;have o:aK (b.take (k+1))=aK (b.take k)++[.p (enc b[k])]:=by rw[ed n,sR];rfl
  simp[u];exact⟨⟨by omega,by omega⟩,y (k+1) _ (aA.to [1,4,5,9,10,11] [((1,0),1),((2,0),2),((24,0),3)] (by simp[o])) (by omega) (by omega)⟩
 .have:k=b.length:=by omega
  subst this;simp
def Yd(k:Int)(b:1<=k/\k<=5)(i:Int):zS 126 [xI k,.int .i64 i] (enc (mP k)):=by obtain⟨j,l,m,n,f,h,d⟩:=ym k b;rw[d];refine Sp.vz c.jy λ_=>?_;simp[g.jy];refine bA (O' k b) rfl ?_;simp
def wG(r:aC):zS 75 [enc r] (enc r.zero):=by
 refine Sp.vz c.bh λ_=>?_;simp[g.bh];refine bA (A8 r) rfl ?_;obtain b|b:=iK r.ok;rotate_left
 .simp[b,aC.zero,Dy]
 simp[b];refine⟨λf=>?_,λf=>?_⟩
 .have j:=aC.bQ b f;refine bA (HC r j.2.2 j.2.1 126 [] (r.parts.map mP) (by simp) λi h t=>by simpa using Yd r.parts[i] (j.2.2 _ (List.getElem_mem h)) i) rfl ?_;simp[b,aC.zero,f]
 .have d:=aC.cJ b f;obtain⟨n,o,p,s,l,m,k⟩:=ym r.kind ⟨d.1,d.2.1⟩;refine bA (CE r.kind ⟨d.1,d.2.1⟩) rfl ?_;simp[k];refine bA (O' r.kind ⟨d.1,d.2.1⟩) rfl ?_;simp[b,aC.zero,d.2.2,mP]
def F9(r:aC)(w:GW)(y:w.sm 1048576):zS 100 [enc r,enc w] (.bool (decide (w.aJ r))):=by
 refine Sp.vz c.db λ_=>?_;simp[g.db];refine bA (A8 r) rfl ?_;obtain b|b:=iK r.ok;rotate_left
 .simp[b,GW.aJ]
 simp[b];refine⟨λf=>?_,λf=>?_⟩;rotate_left
 .have d:=aC.cJ b f;obtain⟨F,G,H,J,C,D,s⟩:=ym r.kind ⟨d.1,d.2.1⟩;refine bA (CE r.kind ⟨d.1,d.2.1⟩) rfl ?_;simp[s];refine aW (R3 r.kind ⟨d.1,d.2.1⟩ w y) ?_;simp[GW.aJ,b,f]
 have O:=aC.bQ b f;refine⟨λL=>?_,λL h=>?_⟩;rotate_left
 .have:=(h.2.2 f).1;omega
 have x:w.parts.length=r.parts.length:=by omega
 refine aW (CV w y (.mk dP 0 false 0 [] w.parts)) ?_;simp;refine⟨λt=>?_,λt h=>t (h.2.2 f).2.1⟩
 refine b6 (S:=λk:Nat=>aB [(3,.ptr 1 0 0 0),(35,.p (.sl (ens r.parts))),(36,.p (.int .i64 r.parts.length)),(37,.p (.int .i64 k))] [(1,⟨8,[.p (enc w)]⟩)]) (I:=λk=>k<=r.parts.length/\∀ i,(h:i<r.parts.length)->(n:i<w.parts.length)->i<k->w.parts[i].si r.parts[i]) (m:=λk=>r.parts.length - k) 0
  (aA.to [3,35,36,37] [((3,0),1)] (by simp)) ⟨by omega,λi h n V=>by omega⟩ ?_
 rintro k ⟨W,z⟩ R M Q U;have E:=aZ k;simp[g.vk,aB];refine⟨λd=>?_,λd=>U _ _ ?_⟩
 .have j:k<w.parts.length:=by omega
  have l:=O.2.2 _ (bU d);obtain⟨F,G,H,J,C,D,s⟩:=ym r.parts[k] l;refine bK d ?_
  try simp
  refine bA (CE r.parts[k] l) rfl ?_;simp[s];refine bK j ?_
  try simp
  refine aW (R3 r.parts[k] l w.parts[k] (y.parts _ (bU j))) ?_;by_cases o:w.parts[k].si r.parts[k]
  .simp[o,E];refine M (k+1) _ (aA.to [3,35,36,37] [((1,0),1)] (by simp)) ⟨by omega,λi h n X=>?_⟩ (by omega);by_cases u:i<k
   .exact z i h n u
   .have:i=k:=by omega
    subst this;exact o
  .simp[o];refine Q _ ?_;have:¬ w.aJ r:=λh=>o ((h.2.2 f).2.2 k d j);simp[this]
 .have:w.aJ r:=⟨b,λh=>absurd f h,λ_=>⟨x,t,λi h n=>z i h n (by omega)⟩⟩;simp[this]
def B3(r:aC)(w:GW)(d:w.sm 1048576):zS 122 [enc r,enc w] (enc (w.tk r)):=by
 refine Sp.vz c.jw λ_=>?_;simp[g.jw];refine aW (F9 r w d) ?_;by_cases b:w.aJ r
 .simp[b,GW.tk]
 .simp[b,GW.tk];refine aW (wG r) ?_;simp
def dA(k:Int)(ps:List GW):GW:=.mk (if k=1\/k=3 then cR 1 else dP) 0 false (if k=4 then 18446744073709551615 else 0) (if k=5 then yd 1 else[]) ps
def aC.one(r:aC):GW:=if r.ok then dA r.kind (r.parts.map λk=>dA k [])else Dy
def Zw:zS 22 [enc (⟨1,[]⟩:aC)] (enc (dA 1 [])):=by have f:Rat.divInt 1 1=1:=rfl;have b:=Cy 1 1 (by omega) (by omega) (by omega);rw[f]at b;have d:(⟨1,[]⟩:aC).ok=true:=tO (by omega);refine Sp.vz c.ae λ_=>?_;simp[g.ae];refine bA (oG ⟨1,[]⟩) rfl ?_;simp[d];refine bA b rfl ?_;simp;refine jT λR i j h=>?_;simp[g.qn];refine h _ _ ?_;simp[dA]
def Zx:zS 22 [enc (⟨2,[]⟩:aC)] (enc (dA 2 [])):=by have f:Rat.divInt 1 1=1:=rfl;have b:=Cy 1 1 (by omega) (by omega) (by omega);rw[f]at b;have d:(⟨2,[]⟩:aC).ok=true:=tO (by omega);refine Sp.vz c.ae λ_=>?_;simp[g.ae];refine bA (oG ⟨2,[]⟩) rfl ?_;simp[d];refine jT λR i j h=>?_;simp[g.qn];refine h _ _ ?_;simp[dA]
def Zy:zS 22 [enc (⟨3,[]⟩:aC)] (enc (dA 3 [])):=by have f:Rat.divInt 1 1=1:=rfl;have b:=Cy 1 1 (by omega) (by omega) (by omega);rw[f]at b;have d:(⟨3,[]⟩:aC).ok=true:=tO (by omega);refine Sp.vz c.ae λ_=>?_;simp[g.ae];refine bA (oG ⟨3,[]⟩) rfl ?_;simp[d];refine bA b rfl ?_;simp;refine jT λR i j h=>?_;simp[g.qn];refine h _ _ ?_;simp[dA]
def Zz:zS 22 [enc (⟨4,[]⟩:aC)] (enc (dA 4 [])):=by have f:Rat.divInt 1 1=1:=rfl;have b:=Cy 1 1 (by omega) (by omega) (by omega);rw[f]at b;have d:(⟨4,[]⟩:aC).ok=true:=tO (by omega);refine Sp.vz c.ae λ_=>?_;simp[g.ae];refine bA (oG ⟨4,[]⟩) rfl ?_;simp[d];refine jT λR i j h=>?_;simp[g.qn];refine h _ _ ?_;simp[dA]
def ZA:zS 22 [enc (⟨5,[]⟩:aC)] (enc (dA 5 [])):=by have f:Rat.divInt 1 1=1:=rfl;have b:=Cy 1 1 (by omega) (by omega) (by omega);rw[f]at b;have d:(⟨5,[]⟩:aC).ok=true:=tO (by omega);refine Sp.vz c.ae λ_=>?_;simp[g.ae];refine bA (oG ⟨5,[]⟩) rfl ?_;simp[d];refine bA b rfl ?_;simp;refine bA (Vr (cR 1) (D8.mono (by omega))) rfl ?_;simp;refine jT λR i j h=>?_;simp[g.qn];refine h _ _ ?_;simp[dA,yd,kW]
def Ue(k:Int)(b:1<=k/\k<=5):zS 22 [enc (⟨k,[]⟩:aC)] (enc (dA k [])):=by
 have:k=1\/k=2\/k=3\/k=4\/k=5:=by omega
 obtain rfl|rfl|rfl|rfl|rfl:=this
 .exact Zw
 .exact Zx
 .exact Zy
 .exact Zz
 .exact ZA
def HQ(r:aC):zS 22 [enc r] (enc r.one):=by
 obtain b|b:=iK r.ok;rotate_left
 .refine Sp.vz c.ae λ_=>?_;simp[g.ae];refine bA (oG r) rfl ?_;simp[b,aC.one,Dy]
 by_cases f:r.kind=6;rotate_left
 .have d:=aC.cJ b f;have u:r=⟨r.kind,[]⟩:=by rw[<- d.2.2]
  have h:r.one=dA r.kind []:=by simp[aC.one,b,d.2.2]
  rw[h,u];exact Ue r.kind ⟨d.1,d.2.1⟩
 have y:=aC.bQ b f;refine Sp.vz c.ae λ_=>?_;simp[g.ae];refine bA (oG r) rfl ?_;simp[b,f]
 refine b6 (S:=λk:Nat=>aB [(1,.ptr 1 0 0 0),(2,.ptr 2 0 0 0),(3,.ptr 3 0 0 0),(4,.p (.int .i64 k))]
   [(1,⟨2,[.p (enc r)]⟩),(2,⟨8,[.agg [.p (.bool false),.nil,.nil,.p (.int .i64 0),.p (.bool false),.p (.int .u64 0),.nil,.nil]]⟩),
    (3,⟨8,[.agg [.p (.bool false),.nil,.nil,.p (.int .i64 0),.p (.bool false),.p (.int .u64 0),.nil,.own 4 0 0 k]]⟩),(4,⟨8,aK ((r.parts.map λk=>dA k []).take k)⟩)])
  (I:=λk=>k<=r.parts.length) (m:=λk=>r.parts.length - k) 0
  ((aA.b5 (s0:=3) (g0:=0) (i:=7) (s:=77) (sz:=8) rfl).trans (aA.to [1,2,3,4] [((1,0),1),((2,0),2),((3,0),3),((77,0),4)] (by simp[f]))) (by omega) ?_
 rintro k h R x C z;have t:=aZ k;simp[g.qn,aB];refine⟨λd=>?_,λd=>z _ _ ?_⟩
 .have l:=y.2.2 _ (List.getElem_mem d);refine bA (FZ r k d) rfl ?_;simp;refine bA (Ue r.parts[k] l) rfl ?_;have j:k<(r.parts.map λk=>dA k []).length:=by simpa using d
  have n:aK ((r.parts.map λk=>dA k []).take (k+1))=aK ((r.parts.map λk=>dA k []).take k)++[.p (enc (dA r.parts[k] []))]:=by rw[ed j,sR];simp<;>rfl
  simp[t];exact⟨⟨(uN h).symm,by omega⟩,x (k+1) _ (aA.to [1,2,3,4] [((1,0),1),((2,0),2),((3,0),3),((39,0),4)] (by simp[n])) (by omega) (by omega)⟩
 .have:k=r.parts.length:=by omega
  subst this;have o:(r.parts.map λk=>dA k []).take r.parts.length=r.parts.map λk=>dA k []:=by rw[eZ (by simp)]
  simp[b,f,aC.one,dA];simp only[dA]at o;simp only[o]
def RF(p q:List GW)(D:p.length<=1073741824)(hp:∀ w∈p,w.sm 1048576):zS 38 [.sl (ens p),.sl (ens q)] (.bool (decide (p=q))):=by
 refine Sp.vz c.mm λ_=>?_;simp[g.mm];refine⟨λh=>?_,λh=>λu=>h (by rw[u])⟩;have d:p.length=q.length:=by omega
 refine b6 (S:=λk:Nat=>aB [(0,.p (.sl (ens p))),(1,.p (.sl (ens q))),(5,.p (.int .i64 k))] []) (I:=λk=>k<=p.length/\p.take k=q.take k) (m:=λk=>p.length - k) 0
  (aA.to [0,1,5] [] (by simp)) ⟨by omega,by simp⟩ ?_
 rintro k ⟨C,n⟩ R x y z;have o:=aZ k;simp[g.uz,aB];refine⟨λi=>?_,λi=>z _ _ ?_⟩
 .have b:k<q.length:=by omega
  have j:p[k]≠q[k]->p≠q:=λh r=>by subst r;exact h rfl
  refine bK i ?_;refine bK b ?_;refine aW (Iy p[k] (hp _ (bU i)) q[k]) ?_;by_cases f:p[k]=q[k]
  .simp[f,o];exact x (k+1) _ (aA.to [0,1,5] [] (by simp)) ⟨by omega,by rw[ed i,ed b,n,f]⟩ (by omega)
  .have t:p≠q:=j f;simp[f];exact y _ (by simp[t])
 .have s:p=q:=by rw[<- List.take_length (l:=p),<- List.take_length (l:=q),<- d,show p.length=k by omega];exact n
  simp[s]
def O5(x y:UInt64):Fi .u64 x.toNat y.toNat=((x ||| y).toNat:Int):=by rw[KG x.toNat_lt y.toNat_lt,UInt64.toNat_or]
def zaw(k:Int)(v w:GW):GW :=
 if k=1 then .mk (cR (v.q.v+w.q.v)) 0 false 0 [] []
 else if k=2 then if v.inf=true\/(w.inf=false/\w.cost<v.cost)then w else v
 else if k=3 then if v.q.v<w.q.v then w else v
 else if k=4 then .mk dP 0 false (v.set ||| w.set) [] []
 else .mk dP 0 false 0 (eN v.aR w.aR) []
def yfk(v w:GW)(d:v.sm 1048576)(f:w.sm 1048576)(j:v.aJ ⟨1,[]⟩)(k:w.aJ ⟨1,[]⟩):zS 130 [enc (⟨1,[]⟩:aC),enc v,enc w] (enc (zaw 1 v w)):=by have b:(⟨1,[]⟩:aC).ok=true:=tO (by omega);have l:v.tk ⟨1,[]⟩=v:=aX j;have m:w.tk ⟨1,[]⟩=w:=aX k;have h:=lQ ⟨1,[]⟩ v d;have i:=lQ ⟨1,[]⟩ w f;rw[l]at h;rw[m]at i;refine Sp.vz c.ah λ_=>?_;simp[g.ah];refine bA (oG ⟨1,[]⟩) rfl ?_;simp[b];refine aW h ?_;simp;refine aW i ?_;simp;refine bA (Kl v.q w.q d.q f.q) rfl ?_;simp[zaw]
def yfj(v w:GW)(m:v.sm 1048576)(n:w.sm 1048576)(k:v.aJ ⟨2,[]⟩)(l:w.aJ ⟨2,[]⟩):zS 130 [enc (⟨2,[]⟩:aC),enc v,enc w] (enc (zaw 2 v w)):=by
 have f:(⟨2,[]⟩:aC).ok=true:=tO (by omega);have o:v.tk ⟨2,[]⟩=v:=aX k;have p:w.tk ⟨2,[]⟩=w:=aX l;have i:=lQ ⟨2,[]⟩ v m;have j:=lQ ⟨2,[]⟩ w n;rw[o]at i;rw[p]at j;refine Sp.vz c.ah λ_=>?_;simp[g.ah];refine bA (oG ⟨2,[]⟩) rfl ?_;simp[f];refine aW i ?_;simp;refine aW j ?_;simp;obtain b|b:=iK v.inf
 .simp[zaw,b]
 obtain d|d:=iK w.inf
 .simp[zaw,b,d]
 simp[zaw,b,d];refine⟨λh=>by simp[h,d],λh=>by simp[show ¬ w.cost<v.cost by omega,b]⟩
def yfi(v w:GW)(f:v.sm 1048576)(h:w.sm 1048576)(k:v.aJ ⟨3,[]⟩)(l:w.aJ ⟨3,[]⟩):zS 130 [enc (⟨3,[]⟩:aC),enc v,enc w] (enc (zaw 3 v w)):=by
 have b:(⟨3,[]⟩:aC).ok=true:=tO (by omega);have m:v.tk ⟨3,[]⟩=v:=aX k;have n:w.tk ⟨3,[]⟩=w:=aX l;have i:=lQ ⟨3,[]⟩ v f;have j:=lQ ⟨3,[]⟩ w h;rw[m]at i;rw[n]at j;refine Sp.vz c.ah λ_=>?_;simp[g.ah];refine bA (oG ⟨3,[]⟩) rfl ?_;simp[b];refine aW i ?_;simp;refine aW j ?_;simp;refine bA (Tt v.q w.q f.q h.q) rfl ?_;by_cases d:v.q.v<w.q.v
 .simp[zaw,d]
 .simp[zaw,d]
def yfh(v w:GW)(j:v.sm 1048576)(k:w.sm 1048576)(h:v.aJ ⟨4,[]⟩)(i:w.aJ ⟨4,[]⟩):zS 130 [enc (⟨4,[]⟩:aC),enc v,enc w] (enc (zaw 4 v w)):=by have b:(⟨4,[]⟩:aC).ok=true:=tO (by omega);have l:v.tk ⟨4,[]⟩=v:=aX h;have m:w.tk ⟨4,[]⟩=w:=aX i;have d:=lQ ⟨4,[]⟩ v j;have f:=lQ ⟨4,[]⟩ w k;rw[l]at d;rw[m]at f;refine Sp.vz c.ah λ_=>?_;simp[g.ah];refine bA (oG ⟨4,[]⟩) rfl ?_;simp[b];refine aW d ?_;simp;refine aW f ?_;simp;simp[zaw,O5]
def yfg(v w:GW)(p:v.sm 1048576)(r:w.sm 1048576)(h:v.aJ ⟨5,[]⟩)(i:w.aJ ⟨5,[]⟩)(D B b:Nat)(n:lU D B v.aR)(o:lU D b w.aR)(d:D≠0)(k:D<4294967296^1048576)(j:B+b<4294967296^1048576):zS 130 [enc (⟨5,[]⟩:aC),enc v,enc w] (enc (zaw 5 v w)):=by have s:=yhh v.aR w.aR D B b (BA h) (BA i) n o d k j;clear k j;have f:(⟨5,[]⟩:aC).ok=true:=tO (by omega);have t:v.tk ⟨5,[]⟩=v:=aX h;have u:w.tk ⟨5,[]⟩=w:=aX i;have l:=lQ ⟨5,[]⟩ v p;have m:=lQ ⟨5,[]⟩ w r;rw[t]at l;rw[u]at m;refine Sp.vz c.ah λ_=>?_;simp[g.ah];refine bA (oG ⟨5,[]⟩) rfl ?_;simp[f];refine aW l ?_;simp;refine aW m ?_;simp;refine bA s rfl ?_;simp[zaw]
def yaj(v w:GW)(b:v.sm 1048576)(d:w.sm 1048576):zS 198 [enc v,enc w] (enc (zaw 1 v w)):=by refine Sp.vz c.ia λ_=>?_;simp[g.ia];refine bA (FJ v.q w.q b.q d.q) rfl ?_;simp[zaw]
def Wk(v w:GW):zS 227 [enc v,enc w] (enc (zaw 4 v w)):=by refine Sp.vz c.eu λ_=>?_;simp[g.eu,zaw,O5]
def yf6(v w:GW):zS 211 [enc v,enc w] (.bool (!v.inf&&(w.inf||decide (v.cost<w.cost)))):=by refine Sp.vz c.ee λ_=>?_;simp[g.ee];obtain b|b:=iK v.inf<;>obtain d|d:=iK w.inf<;>simp[b,d]
def ycc(v w:GW)(j:v.si 2)(k:w.si 2):zS 210 [enc v,enc w] (enc (zaw 2 v w)):=by
 refine Sp.vz c.d9 λ_=>?_;simp[g.d9];refine aW (yf6 w v) ?_;obtain f|f:=iK v.inf
 .obtain d|d:=iK w.inf
  .have h:v=w:=by have a:=pY.1 j;have b:=pY.1 k;exact GW.ext (by rw[a.2.1,b.2.1]) (by rw[a.2.2.2.2.2.2 f,b.2.2.2.2.2.2 d]) (by rw[f,d]) (by rw[a.2.2.1,b.2.2.1]) (by rw[a.2.2.2.1,b.2.2.2.1]) (by rw[a.1,b.1])
   subst h;simp[f,zaw]
  .simp[f,d,zaw]
 .obtain d|d:=iK w.inf
  .simp[f,d,zaw]
  .by_cases i:w.cost<v.cost
   .simp[f,d,i,zaw]
   .simp[f,d,i,zaw]
def ybs(v w:GW)(b:v.sm 1048576)(d:w.sm 1048576):zS 221 [enc v,enc w] (.bool (decide (w.q.v<v.q.v))):=by refine Sp.vz c.ii λ_=>?_;simp[g.ii];refine bA (Rp v.q w.q b.q d.q) rfl ?_;simp[SR]
def ybr(v w:GW)(f:v.sm 1048576)(i:w.sm 1048576)(k:v.si 3)(l:w.si 3):zS 222 [enc v,enc w,.ref tB] (enc (zaw 3 v w)):=by
 refine Sp.fD c.ij (by simp) (aA.dV (t:=2) (v:=tB) (n:=9) (by simp) rfl) ?_;simp[g.ij,tB];refine aW (ybs w v i f) ?_;have d:∀ x:GW,x.si 3->x=.mk (cR x.q.v) 0 false 0 [] []:=λx j=>by have a:=wP.1 j;exact GW.ext (sx a.2.2.2.2.2.1).symm a.2.2.1 a.2.1 a.2.2.2.1 a.2.2.2.2.1 a.1
 have b:dP.v=0:=by rw[show dP=cR 0 from yA.symm,kW]
 by_cases h:v.q.v<w.q.v
 .have e:zaw 3 v w=.mk (cR w.q.v) 0 false 0 [] []:=by simp only[zaw,h,cH];exact d w l
  rw[e];simp[h];have:=FJ w.q dP i.q (yf _);rw[b,qY]at this;refine bA this rfl ?_;simp
 .have e:zaw 3 v w=.mk (cR v.q.v) 0 false 0 [] []:=by simp only[zaw,h,fQ];exact d v k
  rw[e];simp[h];have:=FJ v.q dP f.q (yf _);rw[b,qY]at this;refine bA this rfl ?_;simp
end Go.Ab
namespace Go.Ab
open Go.Proofs
def T.bool:TypeId:=4
def T.int:TypeId:=3
def T.ints:TypeId:=22
def T.rF:TypeId:=52
def T.u32:TypeId:=179
def T.u64:TypeId:=55
def T.key:TypeId:=100
def T.rat:TypeId:=54
def T.mono:TypeId:=102
def T.aR:TypeId:=56
def T.weight:TypeId:=58
def T.weights:TypeId:=25
def T.ring:TypeId:=24
def T.Kj:TypeId:=93
def T.aD:TypeId:=40
def T.wO:TypeId:=60
def T.vO:TypeId:=26
def T.auto:TypeId:=42
def T.trans:TypeId:=28
def T.model:TypeId:=36
def ty.map:P.underlying 266=some (.map 100 54):=by kernel_rfl
def ty.key:P.underlying 100=some (.array 3 3):=by kernel_rfl
def ty.int:P.underlying 3=some (.int .i64):=by kernel_rfl
def ty.bool:P.underlying 4=some .bool:=by kernel_rfl
def ty.u32:P.underlying 179=some (.int .u32):=by kernel_rfl
def ty.u64:P.underlying 55=some (.int .u64):=by kernel_rfl
def ty.cells:P.cellsOf 100=3:=by kernel_rfl
def ty.cell:P.cellsOf 3=1:=by kernel_rfl
def ty.Ov:P.cellsOf 179=1:=by kernel_rfl
def ty.size:0<P.types.size:=of_decide_eq_true (by kernel_rfl)
def ty.ints:P.underlying T.ints=some (.slice 3):=by kernel_rfl
def ty.rF:P.underlying T.rF=some (.slice 179):=by kernel_rfl
def ty.aR:P.underlying T.aR=some (.slice T.mono):=by kernel_rfl
def ty.Hp:P.cellsOf T.mono=6:=by kernel_rfl
def ty.weights:P.underlying T.weights=some (.slice T.weight):=by kernel_rfl
def ty.vR:P.cellsOf T.weight=8:=by kernel_rfl
def ty.aD:P.underlying T.aD=some (.slice T.Kj):=by kernel_rfl
def ty.zaU:P.cellsOf T.Kj=11:=by kernel_rfl
def ty.vO:P.underlying T.vO=some (.slice T.wO):=by kernel_rfl
def ty.Hm:P.cellsOf T.wO=12:=by kernel_rfl
def ty.rat:yM P T.rat=some ([(T.bool,0,1),(T.rF,1,1),(T.rF,2,1)],3):=by kernel_rfl
def ty.mono:yM P T.mono=some ([(T.key,0,3),(T.rat,3,3)],6):=by kernel_rfl
def ty.weight:yM P T.weight=some ([(T.rat,0,3),(T.int,3,1),(T.bool,4,1),(T.u64,5,1),(T.aR,6,1),(T.weights,7,1)],8):=by kernel_rfl
def ty.ring:yM P T.ring=some ([(T.int,0,1),(T.ints,1,1)],2):=by kernel_rfl
def ty.Kj:yM P T.Kj=some ([(T.int,0,1),(T.int,1,1),(T.int,2,1),(T.weight,3,8)],11):=by kernel_rfl
def ty.wO:yM P T.wO=some ([(T.int,0,1),(T.int,1,1),(T.int,2,1),(T.int,3,1),(T.weight,4,8)],12):=by kernel_rfl
def ty.auto:yM P T.auto=some ([(T.ring,0,2),(T.int,2,1),(T.int,3,1),(T.weights,4,1),(T.weights,5,1),(T.aD,6,1)],7):=by kernel_rfl
def ty.trans:yM P T.trans=some ([(T.ring,0,2),(T.int,2,1),(T.int,3,1),(T.int,4,1),(T.weights,5,1),(T.weights,6,1),(T.vO,7,1)],8):=by kernel_rfl
def ty.model:yM P T.model=some ([(T.int,0,1),(T.ints,1,1),(T.ints,2,1),(T.ints,3,1),(T.bool,4,1)],5):=by kernel_rfl
def ty.yJ:P.underlying 65=some (.map 111 3):=by kernel_rfl
def ty.yK:Fx P 111=some [.i64,.i64,.i64]:=by kernel_rfl
end Go.Ab
