/- Lemmas for the law AmbiguityCounts, part 28. No conditions. -/
import Derived.Test.YtcemegnnejaahaaGreatDoorDP27
set_option maxRecDepth 100000
set_option maxHeartbeats 4000000
set_option linter.all false
namespace Go.Ab
open Enc (enc)
def natR(n:Nat):GRat:=⟨false,lb n,[]⟩
theorem zrc(n:Nat):rto (n:Rat)=natR n:=by
 have:decide (((n:Nat):Int)<0)=false:=by simp
 unfold rto natR;rw[Rat.num_natCast,Rat.den_natCast,this];simp
theorem ztg(n:Nat):(natR n).v=(n:Rat):=by rw[<- zrc,zhi]
theorem zk2:natR 0=⟨false,[],[]⟩:=by simp[natR]
theorem zj0(a b:Nat):rto ((natR a).v+(natR b).v)=natR (a+b):=by rw[ztg,ztg,<- zrc];congr 1;push_cast;rfl
theorem z1z(a b:Nat):sgnR ((natR a).v - (natR b).v)=if a<b then -1 else if b<a then 1 else 0:=by
 rw[ztg,ztg];have:(a:Rat) - (b:Rat)=(((a:Int) - (b:Int):Int):Rat):=by push_cast;rfl
 rw[this];have key:∀ z:Int,sgnR (z:Rat)=if z=0 then 0 else if z<0 then -1 else 1:=fun z=>by unfold sgnR;rw[Rat.num_intCast]
 rw[key];by_cases h1:a<b
 ·rw[yf1 h1,yf0 (by omega),yf1 (by omega)]
 ·rw[yf0 h1];by_cases h2:b<a
  ·rw[yf1 h2,yf0 (by omega),yf0 (by omega)]
  ·rw[yf0 h2,yf1 (by omega)]
theorem zro{n k:Nat}(h:n<4294967296^k):(natR n).sm k:=⟨zau h,by simp[natR]⟩
def zba(l:List GArc)(q:Nat):List GArc:=l.filter fun x=>decide (x.f=(q:Int))
def ltA(l:List GArc)(q:Nat):Nat:=(l.filter fun x=>decide (x.f<(q:Int))).length
def fstA(l:List GArc)(N:Nat):List Int:=(List.range (N+1)).map fun q=>((ltA l q:Nat):Int)
def FS(l:List GArc):Prop:=l.Pairwise fun x y=>x.f<=y.f
theorem ztn(l:List GArc)(q:Nat):ltA l q<=l.length:=yh3 _ _
theorem zoa(l:List GArc)(q:Nat):ltA l (q+1)=ltA l q+(zba l q).length:=by
 unfold ltA zba
 induction l with
 | nil=>rfl
 | cons x l ih =>
  simp only[ygw,decide_eq_true_eq];by_cases h1:x.f<(q:Int)
  ·rw[yf1 (by omega),yf1 h1,yf0 (by omega)];simp only[yg2];omega
  ·by_cases h2:x.f=(q:Int)
   ·rw[yf1 (by omega),yf0 h1,yf1 h2];simp only[yg2];omega
   ·rw[yf0 (by omega),yf0 h1,yf0 h2];exact ih
theorem zy1:∀ {l:List GArc} (q:Nat),FS l->l.drop (ltA l q)=l.filter fun x=>decide ((q:Int)<=x.f)
 | [],_,_=>by simp[ltA]
 | x::l,q,h=>by
  obtain⟨h1,h2⟩:=ygg.1 h;by_cases hx:x.f<(q:Int)
  ·have e:ltA (x::l) q=ltA l q+1:=by simp[ltA,ygw,hx]
   rw[e,yjd,zy1 q h2,ygw,yf0 (by simp;omega)]
  ·have e:ltA (x::l) q=0:=by
    unfold ltA;rw[yjf,yjn];intro y hy;rcases yf4.1 hy with rfl|hy
    ·simpa using hx
    ·have:=h1 y hy;simp;omega
   rw[e,yhx]
   symm
   rw[yjo];intro y hy;rcases yf4.1 hy with rfl|hy
   ·simp;omega
   ·have:=h1 y hy;simp;omega
theorem zy0:∀ {l:List GArc} (q:Nat),FS l->(∀ x∈l,(q:Int)<=x.f)->l.take (zba l q).length=zba l q
 | [],_,_,_=>by simp[zba]
 | x::l,q,h,hq=>by
  obtain⟨h1,h2⟩:=ygg.1 h;by_cases hx:x.f=(q:Int)
  ·have e:zba (x::l) q=x::zba l q:=by simp[zba,ygw,hx]
   rw[e,yg2,yjc,zy0 q h2 fun y hy=>hq y (by simp[hy])]
  ·have e:zba (x::l) q=[]:=by
    unfold zba;rw[yjn];intro y hy;have:=hq x (by simp);rcases yf4.1 hy with rfl|hy
    ·simpa using hx
    ·have:=h1 y hy;simp;omega
   rw[e];rfl
theorem zve{l:List GArc}(q:Nat)(h:FS l):(l.drop (ltA l q)).take (ltA l (q+1) - ltA l q)=zba l q:=by
 have e:ltA l (q+1) - ltA l q=(zba l q).length:=by rw[zoa];omega
 have hf:zba (l.filter fun x=>decide ((q:Int)<=x.f)) q=zba l q:=by
  unfold zba;rw[List.filter_filter];apply List.filter_congr;intro x _;by_cases hx:x.f=(q:Int)
  ·simp[hx]
  ·simp[hx]
 rw[e,zy1 q h,<- hf];exact zy0 q (List.Pairwise.filter _ h) (fun x hx=>by simpa using (List.mem_filter.1 hx).2)
noncomputable def cn(r:GRing)(fin:List GW)(l:List GArc):Nat->Nat->Nat
 | 0=>fun q=>if fin.getD q r.zero=r.zero then 0 else 1
 | n+1=>fun q=>((zba l q).map fun x=>cn r fin l n x.t.toNat).sum
def mp{α : Type}(n:Nat)(f:Nat -> α):List α := (List.range n).map f
theorem zbf{α : Type}(n:Nat)(f:Nat -> α):(mp n f).length=n:=by simp[mp]
theorem zeh{α : Type}{n i:Nat}(f:Nat -> α)(h:i<(mp n f).length):(mp n f)[i]=f i:=by simp[mp]
theorem zmx{α : Type}{n i:Nat}(f:Nat -> α)(v : α):(mp n f).set i v=mp n fun q=>if q=i then v else f q:=by
 apply yhq
 ·simp[mp]
 ·intro k h1 h2;rw[List.getElem_set];simp only[mp,List.getElem_map,List.getElem_range];by_cases h:i=k
  ·subst h;simp
  ·simp[h,ygr h]
theorem zdc{α : Type}{n:Nat}{f g:Nat -> α}(h:∀ q,q<n->f q=g q):mp n f=mp n g:=ygc fun q hq=>h q (ygy.1 hq)
theorem zj1{α : Type}(n:Nat)(a : α):mp n (fun _=>a)=List.replicate n a:=by simp[mp,List.map_const']
def ctA(l:List GArc)(q:Nat):Nat:=(l.filter fun x=>decide (x.f+1=(q:Int))).length
theorem z26(l:List GArc)(x:GArc)(q:Nat):ctA (l++[x]) q=if x.f+1=(q:Int)then ctA l q+1 else ctA l q:=by
 unfold ctA;rw[yiq,ygi,ygw];by_cases h:x.f+1=(q:Int)
 ·simp[h]
 ·simp[h]
theorem z27(l:List GArc)(q:Nat):ctA l (q+1)=(zba l q).length:=by
 unfold ctA zba;congr 1;apply List.filter_congr;intro x _;by_cases h:x.f=(q:Int)
 ·simp[h]
 ·simp[h]
theorem ybb(l:List GArc)(q:Nat):ctA l q<=l.length:=yh3 _ _
def zjo(a:GAuto)(c:AV):AV:=.agg [.p (.int .i64 a.ring.kind),.p (.sl (ens a.ring.parts)),.p (.int .i64 a.sy),.p (.int .i64 a.st),.p (.sl (ens a.ini)),.p (.sl (ens a.fin)),.p (.sl (ens a.arcs)),c]
def z8v:AV:=.agg [.p (.int .i64 0),.nil,.p (.int .i64 0),.p (.int .i64 0),.nil,.nil,.nil,.nil]
def v1S(a:GAuto)(N k:Nat):St:=mkSt [(2,.ptr 2 0 0 0),(4,.ptr 4 0 0 0),(6,.ptr 6 0 0 0),(26,.p (.sl (ens a.arcs))),(27,.p (.int .i64 a.arcs.length)),(28,.p (.int .i64 k))]
 [(2,⟨8,[z8v]⟩),(4,⟨7,[.p (enc a)]⟩),(6,⟨8,[zjo a (.own 23 0 0 (N+1))]⟩),(23,⟨1,avs (mp (N+1) fun q=>((ctA (a.arcs.take k) q:Nat):Int))⟩)]
def pfx(l:List GArc)(i q:Nat):Int:=if q<=i then((ltA l q:Nat):Int)else((ctA l q:Nat):Int)
def v2S(a:GAuto)(N i:Nat):St:=mkSt [(2,.ptr 2 0 0 0),(6,.ptr 6 0 0 0),(43,.p (.int .i64 N)),(44,.p (.int .i64 i))]
 [(2,⟨8,[z8v]⟩),(6,⟨8,[zjo a (.own 23 0 0 (N+1))]⟩),(23,⟨1,avs (mp (N+1) (pfx a.arcs i))⟩)]
structure GAuto.inN (a:GAuto) (N:Nat):Prop where
 st:a.st=(N:Int)
 f:∀ x∈a.arcs,0<=x.f/\x.f<(N:Int)
theorem z47{a:GAuto}{N:Nat}(h:a.inN N)(hN:N<=1000)(hl:a.arcs.length<=100000){Q:Exit->St->Prop}{ks:List Kt}{st:St}(hw:Weak st (v1S a N 0))(hx:zb6 P 62 Q (zaw 0 ks) 0 (v1S a N a.arcs.length)):vL P 62 Q g.n7 ks st:=by
 refine zaj (S:=fun k:Nat=>v1S a N k) (I:=fun k=>k<=a.arcs.length) (m:=fun k=>a.arcs.length - k) 0 hw (by omega) ?_;rintro k hk R hn hr hx';have e1:=i64s k;simp[g.n7,v1S,mkSt,zjo,z8v];refine⟨fun hlt=>?_,fun hge=>?_⟩
 ·refine zad hlt ?_;obtain⟨f0,f1⟩:=h.f _ (yfi hlt);obtain⟨q,hq⟩:∃ q:Nat,a.arcs[k].f=(q:Int):=⟨a.arcs[k].f.toNat,by omega⟩;have hqN:q+1<(mp (N+1) fun q=>((ctA (a.arcs.take k) q:Nat):Int)).length:=by rw[zbf];omega
  have e2:=i64s q;have hc:=ybb (a.arcs.take k) (q+1);rw[yh8]at hc;have e3:IntKind.i64.wrap (((ctA (a.arcs.take k) (q+1):Nat):Int)+1)=((ctA (a.arcs.take k) (q+1)+1:Nat):Int):=i64w (by omega) (by omega);simp[hq,e2,zbf];refine⟨⟨by omega,by omega⟩,zad hqN ?_⟩;simp only[zeh,e3,e1];refine⟨⟨by omega,by omega⟩,zad hqN ?_⟩;refine hn (k+1) _ (Weak.to [2,4,6,26,27,28] [((2,0),2),((4,0),4),((6,0),6),((23,0),23)] ?_) (by omega) (by omega);have hset:(avs (mp (N+1) fun q=>((ctA (a.arcs.take k) q:Nat):Int))).set (q+1) (.p (.int .i64 ((ctA (a.arcs.take k) (q+1):Nat)+1)))=avs (mp (N+1) fun q=>((ctA (a.arcs.take (k+1)) q:Nat):Int)):=by
   have:(AV.p (.int .i64 ((ctA (a.arcs.take k) (q+1):Nat)+1)))=.p (enc ((((ctA (a.arcs.take k) (q+1):Nat)+1:Nat)):Int)):=by simp
   rw[this];have hs:∀ (l:List Int) (i:Nat) (v:Int),(avs l).set i (.p (enc v))=avs (l.set i v):=fun l i v=>by simp[-zat,avs,ens,yht]
   rw[hs,zmx]
   congr 1
   apply zdc;intro j hj;rw[yfu hlt,z26,hq];by_cases hj2:j=q+1
   ·subst hj2;simp
   ·rw[yf0 hj2,yf0 (by omega)]
  simp[v1S,mkSt,zjo,z8v,hset]
 ·have:k=a.arcs.length:=by omega
  subst this;exact hx' _ _ (by simpa[v1S,mkSt,zjo,z8v]using hx)
theorem z44{a:GAuto}{N:Nat}(hN:N<=1000)(hl:a.arcs.length<=100000){Q:Exit->St->Prop}{ks:List Kt}{st:St}(hw:Weak st (v2S a N 0))(hx:zb6 P 62 Q (zaw 2 ks) 2 (v2S a N N)):vL P 62 Q g.n8 ks st:=by
 refine zaj (S:=fun k:Nat=>v2S a N k) (I:=fun k=>k<=N) (m:=fun k=>N - k) 0 hw (by omega) ?_;rintro k hk R hn hr hx';have e1:=i64s k;simp[g.n8,v2S,mkSt,zjo,z8v];refine⟨fun hlt=>?_,fun hge=>?_⟩
 ·have hb:k+1<(mp (N+1) (pfx a.arcs k)).length:=by rw[zbf];omega
  have hb0:k<(mp (N+1) (pfx a.arcs k)).length:=by rw[zbf];omega
  have h1:pfx a.arcs k (k+1)=((ctA a.arcs (k+1):Nat):Int):=by simp[pfx];omega
  have h2:pfx a.arcs k k=((ltA a.arcs k:Nat):Int):=by simp[pfx]
  have h3:=zoa a.arcs k;have h4:=ztn a.arcs (k+1);rw[<- z27]at h3;have e3:IntKind.i64.wrap (((ctA a.arcs (k+1):Nat):Int)+((ltA a.arcs k:Nat):Int))=((ltA a.arcs (k+1):Nat):Int):=by rw[i64w (by omega) (by omega)];omega
  simp[e1,zbf];refine⟨⟨by omega,by omega⟩,zad hb ?_⟩;simp only[zeh,h1];refine⟨by omega,zad hb0 ?_⟩;simp only[zeh,h2,e3];refine⟨⟨by omega,by omega⟩,zad hb ?_⟩;refine hn (k+1) _ (Weak.to [2,6,43,44] [((2,0),2),((6,0),6),((23,0),23)] ?_) (by omega) (by omega);have hset:(avs (mp (N+1) (pfx a.arcs k))).set (k+1) (.p (.int .i64 ((ltA a.arcs (k+1):Nat):Int)))=avs (mp (N+1) (pfx a.arcs (k+1))):=by
   have hs:∀ (l:List Int) (i:Nat) (v:Int),(avs l).set i (.p (.int .i64 v))=avs (l.set i v):=fun l i v=>by show(avs l).set i (.p (enc v))=_;simp[-zat,avs,ens,yht]
   rw[hs,zmx]
   congr 1
   apply zdc;intro j hj;unfold pfx;by_cases hj2:j=k+1
   ·subst hj2;simp
   ·rw[yf0 hj2];by_cases hj3:j<=k
    ·rw[yf1 hj3,yf1 (by omega)]
    ·rw[yf0 hj3,yf0 (by omega)]
  simp[v2S,mkSt,zjo,z8v,hset]
 ·have:k=N:=by omega
  subst this;exact hx' _ _ (by simpa[v2S,mkSt,zjo,z8v]using hx)
end Go.Ab
namespace Go.Ab
open Enc (enc)
attribute [local simp] zai Opd.slots
def z34:List Int->List GW->List GW->List GW
 | k::ks,v::vs,w::ws=>z33 k v w::z34 ks vs ws
 | _,_,_=>[]
def GRing.times(r:GRing)(v w:GW):GW:=if r.kind=6 then .mk gr0 0 false 0 [] (z34 r.parts v.parts w.parts)else z33 r.kind v w
end Go.Ab
namespace Go.Ab
open Enc (enc)
def mD(n:Nat):Nat:=6^n
def mB(n:Nat):Nat:=6291456^n
def qm(n:Nat)(q:Rat):Prop:=qb (mD n) (mB n) q
structure GW.mb1 (n:Nat) (w:GW):Prop where
 q:qm n w.q.v
 p:∀ e,qm n (pc w.poly e)
structure GW.mb (n:Nat) (w:GW):Prop where
 o:w.mb1 n
 ps:∀ x∈w.parts,x.mb1 n
theorem z4k{v w:GW}(h1:v.q=w.q)(h2:v.cost=w.cost)(h3:v.inf=w.inf)(h4:v.set=w.set)(h5:v.poly=w.poly)(h6:v.parts=w.parts):v=w:=by cases v;cases w;simp only[GW.q_mk,GW.cost_mk,GW.inf_mk,GW.set_mk,GW.poly_mk,GW.parts_mk]at h1 h2 h3 h4 h5 h6;subst h1 h2 h3 h4 h5 h6;rfl
theorem ydj{x y:GRat}(hx:x.valid=true)(hy:y.valid=true)(h:x.v=y.v):x=y:=by rw[<- znu hx,<- znu hy,h]
def trop(w:GW):Int:=if w.inf then 1099511627777 else w.cost
theorem zsu{v w:GW}(hv:v.si 2)(hw:w.si 2)(h:trop v=trop w):v=w:=by
 obtain⟨h1,h2,h3,h4,h5,h6,h7⟩:=si2.1 hv;obtain⟨k1,k2,k3,k4,k5,k6,k7⟩:=si2.1 hw;unfold trop at h;refine z4k (h2.trans k2.symm) ?_ ?_ (h3.trans k3.symm) (h4.trans k4.symm) (h1.trans k1.symm)
 ·cases hi:v.inf<;>cases hj:w.inf<;>simp[hi,hj]at h<;>try omega
  rw[h7 hi,k7 hj]
 ·cases hi:v.inf<;>cases hj:w.inf<;>simp[hi,hj]at h<;>first|rfl|omega
theorem ze0{v w:GW}(hv:v.si 2)(hw:w.si 2):trop (za3 2 v w)=if trop w<trop v then trop w else trop v:=by obtain⟨h1,h2,h3,h4,h5,h6,h7⟩:=si2.1 hv;obtain⟨k1,k2,k3,k4,k5,k6,k7⟩:=si2.1 hw;unfold za3;rw[yf0 (by omega),yf1 rfl];unfold trop;cases hi:v.inf<;>cases hj:w.inf<;>simp[hi,hj]<;>(try split)<;>simp_all<;>omega
theorem zpt{a b c:Rat}(h:a<b)(k:b<c):a<c:=Rat.not_le.1 fun e=>yi9.2 (Rat.le_trans (Rat.le_of_lt k) e) h
theorem zw6{a b c:Rat}(h:a<=b)(k:b<c):a<c:=Rat.not_le.1 fun e=>Rat.not_le.2 k (Rat.le_trans e h)
theorem zxb(x y:GW):za3 3 x y=if x.q.v<y.q.v then y else x:=by simp[za3]
theorem zmo{k:Int}(hk:1<=k/\k<=5){v w:GW}(hv:v.si k)(hw:w.si k):za3 k v w=za3 k w v:=by
 have:k=1\/k=2\/k=3\/k=4\/k=5:=by omega
 rcases this with rfl|rfl|rfl|rfl|rfl
 ·simp only[za3,yf2,yhw]
 ·refine zsu (zda hk hv hw) (zda hk hw hv) ?_;rw[ze0 hv hw,ze0 hw hv];split<;>split<;>omega
 ·obtain⟨h1,h2,h3,h4,h5,h6,h7,h8⟩:=si3.1 hv;obtain⟨k1,k2,k3,k4,k5,k6,k7,k8⟩:=si3.1 hw;rw[zxb,zxb];by_cases a:v.q.v<w.q.v
  ·rw[yf1 a,yf0 (yi9.2 (Rat.le_of_lt a))]
  ·by_cases b:w.q.v<v.q.v
   ·rw[yf0 a,yf1 b]
   ·rw[yf0 a,yf0 b];have e:v.q.v=w.q.v:=Rat.le_antisymm (yi9.1 b) (yi9.1 a);exact z4k (ydj h6 k6 e) (h3.trans k3.symm) (h2.trans k2.symm) (h4.trans k4.symm) (h5.trans k5.symm) (h1.trans k1.symm)
 ·simp[za3,UInt64.or_comm]
 ·have pv:=si_p hv;have pw:=si_p hw;have e:padd v.poly w.poly=padd w.poly v.poly:=znx (zdb _ pv) (zdb _ pw) fun e=>by rw[zgh _ (zao.1 pw).1,zgh _ (zao.1 pv).1,yhw]
  simp[za3,e]
theorem zkw{k:Int}(hk:1<=k/\k<=5){u v w:GW}(hu:u.si k)(hv:v.si k)(hw:w.si k):za3 k (za3 k u v) w=za3 k u (za3 k v w):=by
 have:k=1\/k=2\/k=3\/k=4\/k=5:=by omega
 rcases this with rfl|rfl|rfl|rfl|rfl
 ·simp only[za3,yf2,GW.q_mk,zhi,yhd]
 ·refine zsu (zda hk (zda hk hu hv) hw) (zda hk hu (zda hk hv hw)) ?_;rw[ze0 (zda hk hu hv) hw,ze0 hu hv,ze0 hu (zda hk hv hw),ze0 hv hw]
  repeat' split
  all_goals omega
 ·have s:=zxb;rw[s u v,s v w];by_cases a:u.q.v<v.q.v
  ·rw[yf1 a];by_cases b:v.q.v<w.q.v
   ·rw[yf1 b,s v w,s u w,yf1 b,yf1 (zpt a b)]
   ·rw[yf0 b,s v w,s u v,yf0 b,yf1 a]
  ·rw[yf0 a];by_cases b:v.q.v<w.q.v
   ·rw[yf1 b]
   ·rw[yf0 b,s u w,s u v,yf0 a,yf0];intro c;exact b (zw6 (yi9.1 a) c)
 ·simp[za3,GW.set_mk,UInt64.or_assoc]
 ·have pu:=si_p hu;have pv:=si_p hv;have pw:=si_p hw;have e:padd (padd u.poly v.poly) w.poly=padd u.poly (padd v.poly w.poly):=znx (zdb _ (zdb _ pu)) (zdb _ pu) fun e=>by rw[zgh _ (zao.1 pw).1,zgh _ (zao.1 pv).1,zgh _ (zao.1 (zdb _ pv)).1,zgh _ (zao.1 pw).1,yhd]
  simp[za3,GW.poly_mk,e]
theorem zuz:∀ {ks:List Int} {vs ws:List GW},(∀ k∈ks,1<=k/\k<=5)->vs.length=ks.length->ws.length=ks.length->(∀ i,(h:i<ks.length)->(h':i<vs.length)->vs[i].si ks[i])->(∀ i,(h:i<ks.length)->(h':i<ws.length)->ws[i].si ks[i])->zgg ks vs ws=zgg ks ws vs:=by
 intro ks vs ws hk lv lw hv hw;refine yhq (by rw[zbs lv lw,zbs lw lv]) fun i h1 h2=>?_;have h3:i<ks.length:=by rw[zbs lv lw]at h1;exact h1
 rw[zb4 h3 (by omega) (by omega) h1,zb4 h3 (by omega) (by omega) h2];exact zmo (hk _ (yfi h3)) (hv i h3 (by omega)) (hw i h3 (by omega))
theorem zkv{r:GRing}{v w:GW}(cv:v.chk r)(cw:w.chk r):r.plus v w=r.plus w v:=by
 by_cases h6:r.kind=6
 ·have hp:=GRing.ok_parts cv.1 h6;obtain⟨lv,_,sv⟩:=cv.2.2 h6;obtain⟨lw,_,sw⟩:=cw.2.2 h6;simp only[GRing.plus,yf1 h6,zuz hp.2.2 lv lw sv sw]
 ·have hk:=GRing.ok_kind cv.1 h6;simp only[GRing.plus,yf0 h6];exact zmo ⟨hk.1,hk.2.1⟩ (cv.2.1 h6) (cw.2.1 h6)
theorem zg1{r:GRing}{u v w:GW}(cu:u.chk r)(cv:v.chk r)(cw:w.chk r):r.plus (r.plus u v) w=r.plus u (r.plus v w):=by
 by_cases h6:r.kind=6
 ·have hp:=GRing.ok_parts cv.1 h6;obtain⟨lu,_,su⟩:=cu.2.2 h6;obtain⟨lv,_,sv⟩:=cv.2.2 h6;obtain⟨lw,_,sw⟩:=cw.2.2 h6;simp only[GRing.plus,yf1 h6,GW.parts_mk]
  congr 1
  have luv:=zbs lu lv;have lvw:=zbs lv lw;refine yhq (by rw[zbs luv lw,zbs lu lvw]) fun i h1 h2=>?_;have h3:i<r.parts.length:=by rw[zbs luv lw]at h1;exact h1
  rw[zb4 h3 (by omega) (by omega) h1,zb4 h3 (by omega) (by omega) h2,zb4 h3 (by omega) (by omega) (by omega),zb4 h3 (by omega) (by omega) (by omega)];exact zkw (hp.2.2 _ (yfi h3)) (su i h3 (by omega)) (sv i h3 (by omega)) (sw i h3 (by omega))
 ·have hk:=GRing.ok_kind cv.1 h6;simp only[GRing.plus,yf0 h6];exact zkw ⟨hk.1,hk.2.1⟩ (cu.2.1 h6) (cv.2.1 h6) (cw.2.1 h6)
section
variable (r:GRing)
def wsum(ws:List GW):GW:=ws.foldr r.plus r.zero
variable {r} (hr:r.ok=true)
include hr in
theorem zht:∀ {ws:List GW},(∀ w∈ws,w.chk r)->(wsum r ws).chk r
 | [],_=>zgx hr
 | w::ws,h=>znz (h w (by simp)) (zht fun x hx=>h x (by simp[hx]))
include hr in
theorem zj7{v:GW}(hv:v.chk r):r.plus r.zero v=v:=by rw[zkv (zgx hr) hv];exact zdj hv
include hr in
theorem zj8:∀ {a b:List GW},(∀ w∈a,w.chk r)->(∀ w∈b,w.chk r)->wsum r (a++b)=r.plus (wsum r a) (wsum r b)
 | [],b,_,hb=>(zj7 hr (zht hr hb)).symm
 | w::a,b,ha,hb=>by show r.plus w (wsum r (a++b))=r.plus (r.plus w (wsum r a)) (wsum r b);rw[zj8 (fun x hx=>ha x (by simp[hx])) hb,zg1 (ha w (by simp)) (zht hr fun x hx=>ha x (by simp[hx])) (zht hr hb)]
end
section
variable {α : Type} (key : α -> List Int) (wt : α -> GW) (r:GRing)
def atQ(l:List α)(p:List Int->Bool):GW:=wsum r ((l.filter fun x=>p (key x)).map wt)
variable {key wt r} {up : α -> α -> α} (hr:r.ok=true) (hk:∀ z y,key (up z y)=key z) (hw:∀ z y,wt (up z y)=r.plus (wt z) (wt y))
theorem zz8(p:List Int->Bool):atQ key wt r [] p=r.zero:=rfl
theorem zc2(x : α)(l:List α)(p:List Int->Bool):atQ key wt r (x::l) p=if p (key x)=true then r.plus (wt x) (atQ key wt r l p)else atQ key wt r l p:=by unfold atQ;by_cases h:p (key x)=true<;>simp[h,wsum]
include hr in
theorem zse{l:List α}(h:∀ x∈l,(wt x).chk r)(p:List Int->Bool):(atQ key wt r l p).chk r:=zht hr fun w hw=>by obtain⟨x,hx,rfl⟩:=yf6.1 hw;exact h x (yh0.1 hx).1
include hr in
theorem zv0{a b:List α}(ha:∀ x∈a,(wt x).chk r)(hb:∀ x∈b,(wt x).chk r)(p:List Int->Bool):atQ key wt r (a++b) p=r.plus (atQ key wt r a p) (atQ key wt r b p):=by unfold atQ;rw[yiq,ygx];exact zj8 hr (fun w hw=>by obtain⟨x,hx,rfl⟩:=yf6.1 hw;exact ha x (yh0.1 hx).1) (fun w hw=>by obtain⟨x,hx,rfl⟩:=yf6.1 hw;exact hb x (yh0.1 hx).1)
include hr hk hw in
theorem zup{x : α}(hx:(wt x).chk r)(p:List Int->Bool):∀ {out:List α},(∀ z∈out,(wt z).chk r)->atQ key wt r (insF key up id out x) p=r.plus (atQ key wt r out p) (if p (key x)=true then wt x else r.zero)
 | [],_=>by
  show atQ key wt r [x] p=_;rw[zc2,zz8,zj7 hr (by split;exact hx;exact zgx hr)];split
  ·exact zdj hx
  ·rfl
 | z::o,h=>by
  have hz:=h z (by simp);have ho:∀ y∈o,(wt y).chk r:=fun y hy=>h y (by simp[hy]);have co:=zse (key:=key) hr ho p;have ce:(if p (key x)=true then wt x else r.zero).chk r:=by split;exact hx;exact zgx hr
  simp only[insF];split
  ·rw[zc2,zc2,zup hx p ho];split
   ·rw[zg1 hz co ce]
   ·rfl
  ·split
   ·rename_i h1 h2;rw[zc2,zc2,hk,hw];by_cases h3:p (key z)=true
    ·rw[yf1 h3,yf1 h3,yf1 (h2 ▸ h3),zg1 hz hx co,zg1 hz co hx,zkv hx co]
    ·rw[yf0 h3,yf0 h3,yf0 (h2 ▸ h3),zdj co]
   ·show atQ key wt r (x::z::o) p=_;rw[zc2 x];have cz:=zse (key:=key) hr h p;split
    ·exact zkv hx cz
    ·exact(zdj cz).symm
include hr hk hw in
theorem zz9{l:List α}(h:∀ x∈l,(wt x).chk r)(p:List Int->Bool):∀ n,n<=l.length->(∀ z∈nfm key up id (l.take n),(wt z).chk r)/\atQ key wt r (nfm key up id (l.take n)) p=atQ key wt r (l.take n) p
 | 0,_=>⟨by simp[nfm],rfl⟩
 | n+1,hn=>by
  obtain⟨i1,i2⟩:=zz9 h p n (by omega);have hl:n<l.length:=by omega
  have hx:=h _ (yfi hl);rw[zn4 hl];refine⟨fun z hz=>?_,?_⟩
  ·rcases ztw hz with h1|h1|⟨y,h1,h2⟩
   ·exact i1 z h1
   ·rw[h1];exact hx
   ·rw[h2,hw];exact znz (i1 y h1) hx
  ·rw[zup hr hk hw hx p i1,i2,yfu hl,zv0 hr (fun x hx=>h x (ygb hx)) (fun x hx=>by simp at hx;rw[hx];exact h _ (yfi hl)),zc2,zz8]
   congr 1
   split
   ·exact(zdj hx).symm
   ·rfl
end
def inT(x:GTArc)(t:GTrans):Prop:=0<=x.f/\x.f<t.st/\0<=x.t/\x.t<t.st/\0<=x.i/\x.i<=t.i/\0<=x.o/\x.o<=t.o/\x.w.chk t.ring
structure GTrans.ok (t:GTrans):Prop where
 ring:t.ring.ok=true
 i1:1<=t.i/\t.i<=32
 o1:1<=t.o/\t.o<=32
 st1:0<=t.st
 st2:t.st<=64
 il:(t.ini.length:Int)=t.st
 fl:(t.fin.length:Int)=t.st
 al:t.arcs.length<=2048
 arcs:∀ x∈t.arcs,inT x t
 ini:∀ w∈t.ini,w.chk t.ring
 fin:∀ w∈t.fin,w.chk t.ring
noncomputable instance (x:GTArc) (a:GTrans):Decidable (inT x a):=Classical.propDecidable _
noncomputable instance (a:GTrans):Decidable a.ok:=Classical.propDecidable _
structure GTrans.sm (a:GTrans) (n:Nat):Prop where
 ini:∀ w∈a.ini,w.sm n
 fin:∀ w∈a.fin,w.sm n
 arcs:∀ x∈a.arcs,x.w.sm n
def swT(x:GTArc):GTArc:=⟨x.f,x.o,x.i,x.t,x.w⟩
section
variable {α : Type} {key : α -> List Int} {wt : α -> GW} {r:GRing} {up : α -> α -> α} (hr:r.ok=true) (hk:∀ z y,key (up z y)=key z) (hw:∀ z y,wt (up z y)=r.plus (wt z) (wt y))
def atK(key : α -> List Int)(wt : α -> GW)(r:GRing)(l:List α)(k:List Int):GW:=atQ key wt r l fun x=>decide (x=k)
theorem z0a{L:List α}{k:List Int}(h:∀ x∈L,key x≠k):atK key wt r L k=r.zero:=by unfold atK atQ;rw[List.filter_eq_nil_iff.2 fun x hx=>by simpa using h x hx];rfl
theorem z7w{L:List α}(s:SSrt key L)(c:∀ x∈L,(wt x).chk r){x : α}(hx:x∈L):atK key wt r L (key x)=wt x:=by
 induction L with
 | nil=>cases hx
 | cons z t ih =>
  have s':=ygg.1 s;unfold atK;rw[zc2];simp only[decide_eq_true_eq];rcases yf4.1 hx with rfl|hx'
  ·rw[yf1 rfl,show atQ key wt r t (fun a=>decide (a=key x))=r.zero from z0a (wt:=wt) (r:=r) fun y hy h=>by have:=s'.1 y hy;rw[h]at this;exact yi8 _ this];exact zdj (c x (by simp))
  ·have hne:¬ key z=key x:=fun h=>by have:=s'.1 x hx';rw[h]at this;exact yi8 _ this
   rw[yf0 hne];exact ih s'.2 (fun y hy=>c y (by simp[hy])) hx'
include hr in
theorem zvz{l:List α}(h:∀ x∈l,(wt x).chk r)(p:List Int->Bool):atQ key wt r (l.filter fun x => !decide (wt x=r.zero)) p=atQ key wt r l p:=by
 induction l with
 | nil=>rfl
 | cons x l ih =>
  have ih':=ih fun y hy=>h y (by simp[hy]);by_cases hz:wt x=r.zero
  ·rw[List.filter_cons_of_neg (by simp[hz]),ih',zc2];split
   ·rw[hz,zj7 hr (zse hr (fun y hy=>h y (by simp[hy])) p)]
   ·rfl
  ·rw[List.filter_cons_of_pos (by simp[hz]),zc2,zc2,ih']
noncomputable def tid(key : α -> List Int)(wt : α -> GW)(r:GRing)(up : α -> α -> α)(l:List α):List α := (mrg key up id (srt key l)).filter fun x => !decide (wt x=r.zero)
include hr hk hw in
theorem zsv{l:List α}(h:∀ x∈l,(wt x).chk r):SSrt key (tid key wt r up l)/\(∀ x∈tid key wt r up l,(wt x).chk r/\wt x≠r.zero)/\∀ p,atQ key wt r (tid key wt r up l) p=atQ key wt r l p:=by
 have hm:=(z6o (key:=key) (up:=up) (nw:=id) hk (fun _=>rfl) l);have hs:=(zg3 (key:=key) (up:=up) (nw:=id) hk (fun _=>rfl) _ (srt key l) rfl hm.2).1;have hn:=fun p=>zz9 (key:=key) (up:=up) hr hk hw h p l.length (yf8 _);rw[yfs]at hn;have e:mrg key up id (srt key l)=nfm key up id l:=hm.1;unfold tid;refine⟨List.Pairwise.filter _ hs,fun x hx=>?_,fun p=>?_⟩
 ·have:=List.mem_filter.1 hx;rw[e]at this;exact⟨(hn fun _=>true).1 x this.1,by simpa using this.2⟩
 ·rw[e,zvz hr (hn p).1,(hn p).2]
end
theorem zq6(r:GRing)(l:List GArc):tidA r l=tid GArc.key GArc.w r (upA r) l:=rfl
end Go.Ab
namespace Go.Ab
open Enc (enc)
attribute [local simp] zai Opd.slots
section
variable {α : Type} {key : α -> List Int} {up : α -> α -> α} {nw : α -> α}
end
noncomputable instance:DecidableEq GArc:=fun _ _=>Classical.propDecidable _
noncomputable instance:DecidableEq GTArc:=fun _ _=>Classical.propDecidable _
noncomputable instance:DecidableEq GAuto:=fun _ _=>Classical.propDecidable _
noncomputable instance:DecidableEq GTrans:=fun _ _=>Classical.propDecidable _
end Go.Ab
namespace Go.Ab
section
variable {α : Type} {key : α -> List Int} {wt : α -> GW} {r:GRing} {up : α -> α -> α}
theorem zwh(hr:r.ok=true)(hk:∀ z y,key (up z y)=key z)(hw:∀ z y,wt (up z y)=r.plus (wt z) (wt y)){l:List α}(h:∀ x∈l,(wt x).chk r){x : α}(hx:x∈tid key wt r up l):∃ y∈l,key y=key x:=by
 obtain⟨s,c,e⟩:=zsv (up:=up) hr hk hw h;by_cases hn:∃ y∈l,key y=key x
 ·exact hn
 ·have h1:=z7w s (fun y hy=>(c y hy).1) hx;unfold atK at h1;rw[e]at h1;have h2:atK key wt r l (key x)=r.zero:=z0a fun y hy e=>hn ⟨y,hy,e⟩;exact absurd (h1.symm.trans h2) (c x hx).2
theorem zwg(hk:∀ z y,key (up z y)=key z)(l:List α):(tid key wt r up l).length<=l.length:=by unfold tid;refine yf7 (yh3 _ _) ?_;have h:=(zrr (key:=key) (up:=up) (nw:=id) (Q:=fun _ _=>True) (l:=srt key l) (fun _ _ _=>trivial) (fun _ _=>trivial) (fun _ _ _ _ _=>trivial) (fun _ _ _=>trivial) _ (yf8 _)).1;rw[yfs,(zdg l).2.1]at h;exact h
end
theorem zkf{r:GRing}(hr:r.ok=true){l:List GArc}(h:∀ x∈l,x.w.chk r):SSrt GArc.key (tid GArc.key GArc.w r (upA r) l)/\(∀ x∈tid GArc.key GArc.w r (upA r) l,x.w.chk r/\x.w≠r.zero)/\∀ p,atQ GArc.key GArc.w r (tid GArc.key GArc.w r (upA r) l) p=atQ GArc.key GArc.w r l p:=zsv (key:=GArc.key) (wt:=GArc.w) (up:=upA r) hr (fun _ _=>rfl) (fun _ _=>rfl) h
theorem zxz{a:GAuto}(ok:a.ok):a.nf.ok:=by have hc:∀ x∈a.arcs,x.w.chk a.ring:=fun x hx=>(ok.arcs x hx).2.2.2.2.2.2;refine⟨ok.ring,ok.sy1,ok.sy2,ok.st1,ok.st2,ok.il,ok.fl,yf7 (zwg (key:=GArc.key) (wt:=GArc.w) (r:=a.ring) (up:=upA a.ring) (fun _ _=>rfl) a.arcs) ok.al,fun x hx=>?_,ok.ini,ok.fin⟩;have hx':x∈tid GArc.key GArc.w a.ring (upA a.ring) a.arcs:=hx;obtain⟨y,hy,e⟩:=zwh (key:=GArc.key) (wt:=GArc.w) (up:=upA a.ring) ok.ring (fun _ _=>rfl) (fun _ _=>rfl) hc hx';obtain⟨a1,a2,a3,a4,a5,a6,_⟩:=ok.arcs y hy;simp only[GArc.key,List.cons.injEq,and_true]at e;obtain⟨e1,e2,e3⟩:=e;exact⟨e1 ▸ a1,e1 ▸ a2,e3 ▸ a3,e3 ▸ a4,e2 ▸ a5,e2 ▸ a6,((zkf ok.ring hc).2.1 x hx').1⟩
open Enc (enc)
def zas(a:GAuto):GView:=⟨a,fstA a.arcs a.st.toNat⟩
def z4l:GView:=⟨zt4,[]⟩
theorem z52(l:List GArc)(N:Nat):mp (N+1) (pfx l N)=fstA l N:=by unfold fstA mp;refine ygc fun q hq=>?_;have:=ygy.1 hq;simp only[pfx];rw[yf1 (by omega)]
theorem z54(l:List GArc)(N:Nat)(h:∀ x∈l,0<=x.f):mp (N+1) (fun q=>((ctA (l.take l.length) q:Nat):Int))=mp (N+1) (pfx l 0):=by
 apply zdc;intro q _;rw[yfs];unfold pfx;split
 ·have hq:q=0:=by omega
  subst hq
  congr 1
  unfold ctA ltA
  congr 1
  apply List.filter_congr;intro x hx;have:=h x hx;rw[decide_eq_decide];omega
 ·rfl
theorem z4j{a:GAuto}(ok:a.ok):a.nf.inN a.st.toNat:=by have k:=zxz ok;have h1:a.nf.st=a.st:=rfl;have h2:=ok.st1;refine⟨by rw[h1];omega,fun x hx=>?_⟩;have:=k.arcs x hx;rw[show(a.st.toNat:Int)=a.nf.st by rw[h1];omega];exact⟨this.1,this.2.1⟩
theorem z0u(r:GRing)(l:List GArc):(tidA r l).length<=l.length:=by rw[zq6];exact zwg (key:=GArc.key) (wt:=GArc.w) (r:=r) (up:=upA r) (fun _ _=>rfl) l
theorem zv4(a:GAuto)(n:Nat)(hn:n<=90)(hn1:3<=n)(h:a.sm n)(hl:a.arcs.length<=19) :
  Sp P F.i9 [enc a] (.pure (.tup [enc (if a.vb then zas a.nf else z4l),.int .i64 (if a.vb then 0 else 4)])):=by
 refine Sp.vz c.i9 fun _=>?_;simp[g.i9];refine zaf (zmu a n hn hn1 h hl) ?_;cases hv:a.vb
 ·simp[zt4,z4l]
 have ok:=GAuto.vb_iff.1 hv;have hN:=z4j ok;have i3:=ok.st2;have hl2:a.nf.arcs.length<=19:=yf7 (z0u a.ring a.arcs) hl;have i5:a.st.toNat<=64:=by omega
 simp only[yf2];generalize a.nf=A at *
 generalize a.st.toNat=N at *
 have e0:=hN.st;have e1:=i64s N;have hb:=z54 A.arcs N fun x hx=>(hN.f x hx).1;simp[e0,e1];refine⟨by omega,?_⟩;refine z47 hN (by omega) (by omega) (Weak.to [2,4,6,26,27,28] [((2,0),2),((4,0),4),((6,0),6),((23,0),23)] ?_) ?_
 ·have:avs (mp (N+1) fun q=>((ctA [] q:Nat):Int))=List.replicate (N+1) (.p (.int .i64 0)):=by
   have:(fun q=>((ctA [] q:Nat):Int))=fun _=>0:=by funext q;simp[ctA]
   rw[this,zj1,zf0];rfl
  simp[v1S,mkSt,zjo,z8v,e0,this]
 ·simp[v1S,mkSt,zjo,z8v,e0];refine z44 (a:=A) (N:=N) (by omega) (by omega) (Weak.to [2,6,43,44] [((2,0),2),((6,0),6),((23,0),23)] ?_) ?_
  ·rw[yfs]at hb;simp[v2S,mkSt,zjo,z8v,e0,hb]
  ·rw[v2S,z52];have hlen:(fstA A.arcs N).length=N+1:=by simp[fstA]
   have htk:(fstA A.arcs N).take (N+1)=fstA A.arcs N:=by rw[<- hlen,yfs]
   simp[mkSt,zjo,z8v,e0,zas,hlen,htk]
theorem z0o(A:GAuto)(N q:Nat)(h:A.inN N)(hs:FS A.arcs)(hq:q<N)(hN:N<=1000)(hl:A.arcs.length<=100000):Sp P F.jg [enc (zas A),.int .i64 q] (.pure (.sl (ens (zba A.arcs q)))):=by
 refine Sp.vz c.jg fun _=>?_;have e0:=h.st;have e1:=i64s q;have hf:(zas A).first=mp (N+1) fun q=>((ltA A.arcs q:Nat):Int):=by
  have:A.st.toNat=N:=by omega
  simp[zas,fstA,mp,this]
 have hfa:(zas A).a=A:=rfl;have l1:q<(mp (N+1) fun q=>((ltA A.arcs q:Nat):Int)).length:=by rw[zbf];omega
 have l2:q+1<(mp (N+1) fun q=>((ltA A.arcs q:Nat):Int)).length:=by rw[zbf];omega
 have h1:=zoa A.arcs q;have h2:=ztn A.arcs (q+1);have h3:=zve q hs;simp[g.jg,hf,hfa,e1];refine zad l1 ?_;simp only[zeh];refine zad l2 ?_;simp only[zeh];refine⟨by omega,⟨by omega,by omega,by omega,by omega⟩,?_⟩;simp only[yh4];rw[h3]
noncomputable def begC(a:GAuto)(k:Nat):Nat:=((a.ini.take k).filter fun w=>decide (w≠a.ring.zero)).length
def twin(l:List GArc)(k:Nat):Prop:=∃ (h:k<l.length) (h0:0<k),l[k].f=(l[k - 1]'(by omega)).f/\l[k].l=(l[k - 1]'(by omega)).l
def yew(l:List GArc):Prop:=∀ k,¬ twin l k
open Classical in
structure PinP where
 p:Cz->St->Prop
 m:∀ Z st Z' st',PinLe Z st Z' st'->p Z st->p Z' st'
theorem zg2{st:St}{s g:Nat}{o:AObj}(h:st.site s=[])(ho:st.obj s g=some o):False:=by simp_all
theorem zev.later{o:Option MapD}{K:Ctx}{Z Z':Cz}{st st':St}{w w':World}(hl:Later Z st w Z' st' w')(h:zev o K Z st w):zev o K Z' st' w':=by
 cases o with
 | none=>trivial
 | some m =>
  obtain⟨h1,h2,es,clock,h3,h4,h5,h6⟩:=h;obtain⟨k1,k2⟩:=hl.f _ h1;exact⟨k1,h2,es,clock,by rw[k2];exact h3,h4.mono hl.M,h5.mono hl.M,h6⟩
def hFA(q:PinP)(o:Option MapD):FA:=⟨0,fun _ _=>True,fun _ _ _ _ h=>h,false,true,fun K Z st w=>q.p Z st/\zev o K Z st w,fun _ _ _ _ _ _ _ hl h=>⟨q.m _ _ _ _ hl.pin h.1,zev.later hl h.2⟩⟩
structure AOk (o o':Option MapD) (A A':Option FA):Prop where
 get:∀ K Z st w,zea A K Z st w->zev o K Z st w
 put:∀ K Z st w Z' st' w',zea A K Z st w->LaterX (isR o) Z st w Z' st' w'->zev o' K Z' st' w'->zea A' K Z' st' w'
section
variable {P:Program} {K:Ctx} {Z Z' Z2:Cz} {st st' st1 st2:St} {w w':World} {a:Act} {N:Nat} {A B:Option FA} {Post:Exit->St->Option FA->Prop} {PostI:St->Option FA->Prop} {ks:List Nat} {v:AV}
def za5:Nat->List AV->List (Nat × AV)
 | _,[]=>[]
 | i,v::r=>(i,v)::za5 (i+1) r
theorem zm1:∀ (args:List AV) (i t:Nat),look (za5 i args) t AV.undef=if t<i then .undef else(args[t - i]?).getD .undef
 | [],i,t=>by simp[za5]
 | v::r,i,t=>by
  simp[za5];split
  ·grind
  ·rename_i h;rw[zm1 r (i+1) t];by_cases h1:t<i
   ·grind
   ·grind
def retH(rs:List (Nat × Option Nat))(v:AV)(hp':List Site)(ex:Exit)(s:St):Prop :=
 (ex=.ret\/ex=.normal)/\∃ s1,Weak s s1/\∃ us,zbd s1 rs=some us/\resOf us=v/\zbb s1 hp' hp'
def resG(hp hp':List Site)(s1:St):HV->AV->Prop
 | .av v,u=>u=v
 | .fr sz es,u=>hp'=hp/\((u=.nil/\es=[])\/∃ s g,(hp.map (·.1)).contains s=false/\u=.own s g 0 es.length/\s1.obj s g=some ⟨sz,es.map .p⟩)
 | .bx sz e us,u=>hp'=hp/\∃ s g,(hp.map (·.1)).contains s=false/\u=.tup (.ptr s g 0 0::us.map .p)/\s1.obj s g=some ⟨sz,[e]⟩
def retG(rs:List (Nat × Option Nat))(hp:List Site)(res:HV)(hp':List Site)(ex:Exit)(s:St):Prop :=
 (ex=.ret\/ex=.normal)/\∃ s1,Weak s s1/\∃ us,zbd s1 rs=some us/\resG hp hp' s1 res (resOf us)/\zbb s1 hp' hp'
theorem HSpG.of_mr{f:FuncId}{vs:List AV}{hp hp':List Site}{o0 o0':Option MapD}{res:HV}{n np:Nat}{b:GC}{rs:List (Nat × Option Nat)}(hc:zac P f=some ⟨n,np,b.er,rs⟩)(hn:vs.length<=n)(hoo:o0'.map (·.1)=o0.map (·.1))
  (hpin:hp.all (fun q=>decide (PINB<=q.1)&&decide (q.1<999999))=true) (hks:hp'.map (·.1)=hp.map (·.1)) (hr:(zdi (hp.map (·.1)) res&&hpOk (hp.map (·.1)) hp')=true)
  (h:∀ q:PinP,MR P n b.er ⟨za5 0 vs,hp⟩ (some (hFA q o0)) fun ex s B=>B=some (hFA q o0')/\retG rs hp res hp' ex s):HSpG P f vs hp o0 res hp' o0':=by
 unfold zac at hc;split at hc
 ·rename_i fn hf;split at hc
  ·rename_i hname;split at hc
   ·rename_i c hb;split at hc
    ·rename_i bd rs' h1 h2;obtain⟨rfl,_,rfl,rfl⟩:=hc;refine⟨⟨fn,hf,by rw[hb];rfl,hname⟩,fun Z w vals hH hmi hv=>?_⟩;refine calls_of_wp hf hb ?_;have hl:=hv.length;have hsi:∀ s,(⟨za5 0 vs,hp⟩:St).site s=(⟨[],hp⟩:St).site s:=fun _=>rfl;have h0:StRep ⟨w,Z.M,fun b=>ownB Z ⟨[],hp⟩ b\/isR o0 b,fn.ntmps⟩ Z ⟨za5 0 vs,hp⟩ w { tmps:=vals.toArray++Array.replicate (fn.ntmps - vals.toArray.size) Go.undef,defers:=[] }:=by
      refine⟨fun t=>?_,rfl,by simp;omega,HRep.of_site ⟨hH.objs,hH.inj,hH.mem,hH.sep,hH.own,hH.m0,hH.prov,hH.keep⟩ hsi⟩;have hget:(⟨za5 0 vs,hp⟩:St).get t=(vs[t]?).getD .undef:=by have:=zm1 vs 0 t;simpa[St.get]using this
      rw[hget];cases hx:vs[t]? with
      | none=>exact .undef _
      | some u =>
       obtain⟨x,g1,g2⟩:=hv.get t u hx;have hlt:=(List.getElem?_eq_some_iff.1 g1).1;have:(vals.toArray++Array.replicate (fn.ntmps - vals.toArray.size) Go.undef).getD t Go.undef=x:=by simp[Array.getElem?_append,hlt];have:=(List.getElem?_eq_some_iff.1 g1).2;simpa using this
       rw[this];exact ARep.mono (zbk hsi Z) g2
     let q:PinP:=⟨fun Z' st'=>PinLe Z ⟨za5 0 vs,hp⟩ Z' st',fun _ _ _ _ h k=>k.trans h⟩
     have hmi0:zev o0 ⟨w,Z.M,fun b=>ownB Z ⟨[],hp⟩ b\/isR o0 b,fn.ntmps⟩ Z ⟨za5 0 vs,hp⟩ w:=by
      cases o0 with
      | none=>trivial
      | some m=>exact⟨⟨hmi.1.m,fun s g o a1=>hmi.1.o s g o a1,hmi.1.lt⟩,hmi.2⟩
     refine h q _ h1 _ _ w _ _ rfl h0 ⟨PinLe.refl _ _,hmi0⟩ (fun ex st' A' Z' w' a' hp1 hs1 hA1=>?_);obtain⟨rfl,hex,s1,hw,us,hus,hv1,hsite1⟩:=hp1;obtain⟨Z1,hs2,hl2⟩:=hw.frame hs1;have hpl:PinLe Z ⟨za5 0 vs,hp⟩ Z1 s1:=PinLe.trans hA1.1 hl2.pin;have hmi1:=zev.later hl2 hA1.2;simp only[yfr]at hr;have hsite:∀ s,(hp.map (·.1)).contains s=true->s1.site s=(⟨[],hp'⟩:St).site s:=fun s hs=>by rw[<- hks]at hs;obtain⟨q,hq,rfl⟩:=yf6.1 (yiy.1 hs);exact zl1 hsite1 q hq
     have hpn:∀ s,(hp.map (·.1)).contains s=true->PINB<=s/\s<999999:=fun s hs=>by obtain⟨q,hq,rfl⟩:=yf6.1 (yiy.1 hs);have:=yfp.1 hpin q hq;rw[yfr,decide_eq_true_eq,decide_eq_true_eq]at this;exact this
     have e0:∀ s,(hp.map (·.1)).contains s=false->(⟨[],hp⟩:St).site s=[]:=fun s h=>zgl h;have e1:∀ s,(hp.map (·.1)).contains s=false->(⟨[],hp'⟩:St).site s=[]:=fun s h=>zgl (by rw[hks];exact h);have hz:ZLe Z ⟨[],hp⟩ Z1 ⟨[],hp'⟩:=by
      refine⟨fun b o hb=>hs2.heap.m0 b o hb,fun s=>?_,fun s g hg hd=>?_,fun s g o ho=>?_⟩<;>cases hc:(hp.map (·.1)).contains s
      ·rw[e0 s hc];exact yg4 _
      ·rw[<- hsite s hc];exact hpl.len s (hpn s hc).1 (hpn s hc).2
      ·rw[e0 s hc]at hg;exact absurd hg (yjj _)
      ·rw[zae (hsite s hc).symm];exact hpl.dead s g (hpn s hc).1 (hpn s hc).2 hg hd
      ·exact(zg2 (e0 s hc) ho).elim
      ·rw[zae (hsite s hc).symm];exact hpl.live s g o (hpn s hc).1 (hpn s hc).2 ho
     have hH2:HRep (ctxH Z hp o0 w) Z1 ⟨[],hp'⟩ w'/\zev o0' (ctxH Z hp o0 w) Z1 ⟨[],hp'⟩ w':=by
      have k0:∀ {s g o},(⟨[],hp'⟩:St).obj s g=some o->(hp.map (·.1)).contains s=true:=fun {s g o} ho=>by
       cases h:(hp.map (·.1)).contains s with
       | true=>rfl
       | false=>exact(zg2 (e1 s h) ho).elim
      have o0:∀ {s g o},(⟨[],hp'⟩:St).obj s g=some o->s1.obj s g=some o:=fun {s g o} ho=>by rw[zae (hsite s (k0 ho))];exact ho
      have hq:=hs2.heap
      refine⟨⟨fun s g o ho=>ORep.into (st:=s1) (st2:=⟨[],hp'⟩) (Z2:=Z1) (fun s h=>(hsite s h).symm) (fun _ _ h=>h) (fun _ _ _=>⟨rfl,rfl⟩) (k0 ho) (zom hr.2 ho) (hq.objs s g o (o0 ho)),fun s g s' g' o o' b a1 a2=>hq.inj s g s' g' o o' b (o0 a1) (o0 a2),hq.mem,fun s g o b a1=>hq.sep s g o b (o0 a1),
       fun s g o b a1 b1=>hq.own s g o b (o0 a1) b1,hq.m0,hq.prov,hq.keep⟩,?_⟩
      cases o0' with
      | none=>trivial
      | some m=>exact⟨⟨hmi1.1.m,fun s g o a1=>hmi1.1.o s g o (o0 a1),hmi1.1.lt⟩,hmi1.2⟩
     have hfin:a'.defers=[]/\∃ u,(results fn a'.tmps).run P w'=.ok u w'/\∃ x Z',Ending.returned u=.returned x/\HRep (ctxH Z hp o0 w) Z' ⟨[],hp'⟩ w'/\HRes res Z' ⟨[],hp'⟩ w w' x/\ZLe Z ⟨[],hp⟩ Z' ⟨[],hp'⟩/\zev o0' (ctxH Z hp o0 w) Z' ⟨[],hp'⟩ w':=by
      obtain⟨xs,g1,g2⟩:=zij hs2 h2 hus;have g3:=g2.resOf;have key:hp'=hp->∀ {s g:Nat} {o:AObj} {b:Nat},(hp'.map (·.1)).contains s=false->s1.obj s g=some o->Z1.B s g=some b->(∀ s2 g2 o2,(⟨[],hp'⟩:St).obj s2 g2=some o2->Z1.B s2 g2≠some b)/\w.heap.size<=b:=by
       rintro rfl s g o b hns hob hb;have hne:∀ s2 g2 o2,(⟨[],hp'⟩:St).obj s2 g2=some o2->Z1.B s2 g2≠some b:=fun s2 g2 o2 a1 b1=>by
        have hk:(hp'.map (·.1)).contains s2=true:=by
         cases h:(hp'.map (·.1)).contains s2 with
         | true=>rfl
         | false=>exact(zg2 (e0 s2 h) a1).elim
        obtain⟨rfl,rfl⟩:=hs2.heap.inj _ _ _ _ _ _ b hob (by rw[zae (hsite s2 hk)];exact a1) hb b1;rw[hk]at hns;cases hns
       refine⟨hne,?_⟩;rcases hs2.heap.own s g _ b hob hb with(hX|hX)|hX
       ·exfalso;obtain⟨s3,g3,o3,c1,c2⟩:=hX;have hk:(hp'.map (·.1)).contains s3=true:=by
         cases h:(hp'.map (·.1)).contains s3 with
         | true=>rfl
         | false=>exact(zg2 (e0 s3 h) c1).elim
        have c3:s1.obj s3 g3=some o3:=by rw[zae (hsite s3 hk)];exact c1
        rcases hpl.live s3 g3 o3 (hpn s3 hk).1 (hpn s3 hk).2 c1 with d1|⟨o4,d1,d2,d3,d4,d5⟩
        ·rw[c3]at d1;cases d1
        ·exact hne s3 g3 o3 c1 (by rw[d4];exact c2)
       ·exfalso;cases o0 with
        | none=>exact hX.elim
        | some m =>
         cases o0' with
         | none=>cases hoo
         | some m' =>
          have e:m'.1=m.1:=by simpa using hoo
          have hX:b=m.1:=hX;rw[hX,<- e]at hb;exact hmi1.1.o _ _ _ hob hb
       ·exact hX
      have g4:HRes res Z1 ⟨[],hp'⟩ w w' (if h:xs.toArray.size=1 then xs.toArray[0]else .tuple xs.toArray):=by
       generalize (if h:xs.toArray.size=1 then xs.toArray[0]else .tuple xs.toArray)=x at g3;cases res with
       | av v =>
        have hv1:resOf us=v:=hv1;rw[hv1]at g3;exact ARep.into (st:=s1) (st2:=⟨[],hp'⟩) (Z2:=Z1) (fun s h=>(hsite s h).symm) (fun _ _ h=>h) (fun _ _ _=>⟨rfl,rfl⟩) g3 hr.1
       | bx sz e us' =>
        obtain⟨ehp,s,g,hns,e1,hob⟩:=hv1;rw[e1]at g3;have hO:=hs2.heap.objs s g _ hob;cases g3 with
        | tup _ vals hvs =>
         cases hvs with
         | cons _ x0 _ ys hx0 hys =>
          cases hx0 with
          | ptrD _ _ _ _ _ _ hd=>exact(za4 hob hd).elim
          | ptr _ _ _ _ o' b ho' hb =>
           rw[hob]at ho';cases ho';obtain⟨cur,T,vals,l1,l2,l3,l4,l5,l6⟩:=hO.blk b hb;obtain⟨k1,k2⟩:=key ehp (by rw[ehp];exact hns) hob hb;simp only[List.flatMap_cons,List.flatMap_nil,List.append_nil]at l2;refine⟨b,_,cur,T,vals,ys,by simp,hys.to_p,k2,hs2.heap.sep s g _ b hob hb,l1,?_,l3,l4,⟨by simpa using l5,l6⟩,fun q hq=>?_,k1⟩
           ·simp only[zdi,yfr]at hr;exact AReps.into (st:=s1) (st2:=⟨[],hp'⟩) (Z2:=Z1) (fun s h=>(hsite s h).symm) (fun _ _ h=>h) (fun _ _ _=>⟨rfl,rfl⟩) l2 (zhj hr.1.2)
           ·exact hO.one q (by simpa using hq)
       | fr sz es =>
        obtain⟨ehp,hv1⟩:=hv1;rcases hv1 with⟨e1,rfl⟩|⟨s,g,hns,e1,hob⟩
        ·rw[e1]at g3;cases g3;exact⟨.inl ⟨rfl,rfl⟩,fun b n c h=>by cases h⟩
        ·rw[e1]at g3;have hO:=hs2.heap.objs s g _ hob;generalize hL:es.length=L at g3;cases g3 with
         | own0 _ _ o' ho' hb =>
          have h0:=hO.non hb;have h0':es=[]:=by simpa using h0
          subst h0';exact⟨.inl ⟨rfl,rfl⟩,fun b n c h=>by cases h⟩
         | ownD _ _ _ _ _ _ _ hd=>exact(za4 hob hd).elim
         | own _ _ _ _ o' b ad c ho' hb k1 k2 k3 k4 =>
          rw[hob]at ho';cases ho';subst hL;obtain⟨rfl,rfl⟩:=k1 rfl;obtain⟨cur,T,vals,l1,l2,l3,l4,l5,l6⟩:=hO.blk b hb;obtain⟨hne,hnew⟩:=key ehp (by rw[ehp];exact hns) hob hb;refine⟨.inr ⟨b,_,cur,T,vals,rfl,hnew,hs2.heap.sep s g _ b hob hb,l1,?_,l3,l4,by simpa using l5,l6,fun q hq=>?_⟩,fun b' n c hx=>by cases hx;exact hne⟩
          ·rw[zal]at l2;exact l2.to_p
          ·have:=hO.one (.p q) (by rw[zal];exact yf6.2 ⟨q,hq,rfl⟩);exact this
      refine⟨hs2.defers,_,?_,_,Z1,rfl,hH2.1,g4,hz,hH2.2⟩;unfold results;rw[yin];simp only[yfx,map_eq_pure_bind,yg0];exact congrArg (fun r=>(Result.andThen r fun a w'=>Result.ok a.toArray w').andThen fun(a:Array Value) w'=>Result.ok (if h:a.size=1 then a[0]else Value.tuple a) w') g1
     rcases hex with rfl|rfl
     ·exact hfin
     ·exact hfin
    ·cases hc
   ·cases hc
  ·cases hc
 ·cases hc
theorem HSp.of_mr{f:FuncId}{vs:List AV}{hp hp':List Site}{n np:Nat}{b:GC}{rs:List (Nat × Option Nat)}(hc:zac P f=some ⟨n,np,b.er,rs⟩)(hn:vs.length<=n)
  (hpin:hp.all (fun q=>decide (PINB<=q.1)&&decide (q.1<999999))=true) (hks:hp'.map (·.1)=hp.map (·.1)) (hr:(zce (hp.map (·.1)) v&&hpOk (hp.map (·.1)) hp')=true)
  (h:∀ A:FA,A.nb=true->MR P n b.er ⟨za5 0 vs,hp⟩ (some A) fun ex s B=>B=some A/\retH rs v hp' ex s):HSp P f vs hp v hp' :=
 HSpG.of_mr hc hn rfl hpin hks hr fun q=>h (hFA q none) rfl
end
abbrev Sg:=Nat->Nat->Nat × Nat
mutual
def sub(σ : Sg):AV->AV
 | .own s g off len=>.own (σ s g).1 (σ s g).2 off len
 | .ptr s g ix off=>.ptr (σ s g).1 (σ s g).2 ix off
 | .agg cs=>.agg (subL σ cs)
 | .fn f cs=>.fn f (subL σ cs)
 | .tup cs=>.tup (subL σ cs)
 | .p v=>.p v
 | .nil=>.nil
 | .cp v vsz off=>.cp v vsz off
 | .skip=>.skip
 | .undef=>.undef
def subL(σ : Sg):List AV->List AV
 | []=>[]
 | v::r=>sub σ v::subL σ r
end
def subO(σ : Sg)(o:AObj):AObj:=⟨o.sz,subL σ o.es⟩
structure SubOk (st st':St) (σ : Sg):Prop where
 live:∀ s g o,st.obj s g=some o -> σ s g=(DEAD,0)\/st'.obj (σ s g).1 (σ s g).2=some (subO σ o)
 deadn:∀ s g,g<(st.site s).length->st.obj s g=none->(σ s g).2<(st'.site (σ s g).1).length/\st'.obj (σ s g).1 (σ s g).2=none
 inj:∀ s g s' g' o o',st.obj s g=some o->st.obj s' g'=some o' -> σ s g = σ s' g' -> σ s g≠(DEAD,0)->s=s'/\g=g'
 all:∀ s' g' o',st'.obj s' g'=some o'->∃ s g o,st.obj s g=some o /\ σ s g=(s',g')/\o'=subO σ o
 dead:0<(st'.site DEAD).length/\st'.obj DEAD 0=none
section
variable {P:Program} {K:Ctx} {Z Z':Cz} {st st':St} {w:World} {a:Act} {σ : Sg}
theorem zci:∀ (l:List AV),subL σ l=l.map (sub σ)
 | []=>rfl
 | v::r=>by simp[subL,zci r]
theorem z9c(v:AV):(sub σ v).sz=v.sz:=by cases v<;>simp[sub]<;>simp[zci]
theorem zwm(v:AV):(sub σ v).one=v.one:=by cases v<;>simp[sub]<;>simp
theorem zwn(v:AV):(sub σ v).cells=v.cells.map (sub σ):=by
 cases v with
 | agg cs=>simp[sub,zci]
 | p v=>?_
 | _=>rfl
 cases v<;>first|rfl|skip
 simp only[AV.cells,yhl];apply ygc;intro x _;rfl
theorem zmh(es:List AV):(subL σ es).flatMap AV.cells=(es.flatMap AV.cells).map (sub σ):=by
 induction es with
 | nil=>rfl
 | cons e es ih=>simp only[subL,yft,ygx,ih,zwn]
open Classical in
noncomputable def oldN(st:St)(σ : Sg)(s' g':Nat):Nat × Nat:=if h:∃ i:Nat × Nat,(∃ o,st.obj i.1 i.2=some o) /\ σ i.1 i.2=(s',g')then h.choose else(0,0)
theorem zio(h:SubOk st st' σ){s g:Nat}{o:AObj}(ho:st.obj s g=some o)(hn : σ s g≠(DEAD,0)):oldN st σ (σ s g).1 (σ s g).2=(s,g):=by
 have hx:∃ i:Nat × Nat,(∃ o,st.obj i.1 i.2=some o) /\ σ i.1 i.2=((σ s g).1,(σ s g).2):=⟨(s,g),⟨o,ho⟩,rfl⟩;unfold oldN;rw[dif_pos hx];obtain⟨⟨o',h1⟩,h2⟩:=hx.choose_spec;have h3 : σ hx.choose.1 hx.choose.2 = σ s g:=h2;obtain⟨e1,e2⟩:=h.inj _ _ _ _ _ _ h1 ho h3 (by rw[h3];exact hn)
 grind
noncomputable def Cz.sub(Z:Cz)(st:St)(σ : Sg):Cz where
 M:=Z.M
 B s g:=Z.B (oldN st σ s g).1 (oldN st σ s g).2
 cap s g:=Z.cap (oldN st σ s g).1 (oldN st σ s g).2
mutual
theorem ARep.sub(h:SubOk st st' σ):∀ {v:AV} {x:Value},ARep Z st v x->ARep (Z.sub st σ) st' (Ab.sub σ v) x
 | _,_,.p v x hp=>.p v x hp
 | _,_,.nil=>.nil
 | _,_,.own0 s g o ho hb=>by
  simp only[Ab.sub];by_cases hd : σ s g=(DEAD,0)
  ·rw[hd];exact .ownD _ _ _ _ _ _ h.dead.1 h.dead.2
  ·exact .own0 _ _ _ ((h.live s g o ho).resolve_left hd) (by simp only[Cz.sub,zio h ho hd,hb])
 | _,_,.own s g off len o b ad c ho hb h1 h2 h3 h4=>by
  simp only[Ab.sub];by_cases hd : σ s g=(DEAD,0)
  ·rw[hd];exact .ownD _ _ _ _ _ _ h.dead.1 h.dead.2
  ·exact .own _ _ _ _ _ b ad c ((h.live s g o ho).resolve_left hd) (by simp only[Cz.sub,zio h ho hd,hb]) (by simp only[Cz.sub,zio h ho hd];exact h1) h2 (by simpa[subO,zci]using h3) h4
 | _,_,.ownD s g off len ad c hg hdd=>by
  simp only[Ab.sub];exact .ownD _ _ _ _ _ _ (h.deadn s g hg hdd).1 (h.deadn s g hg hdd).2
 | _,_,.ptr s g ix off o b ho hb=>by
  simp only[Ab.sub];by_cases hd : σ s g=(DEAD,0)
  ·rw[hd];exact .ptrD _ _ _ _ _ h.dead.1 h.dead.2
  ·exact .ptr _ _ ix off (subO σ o) b ((h.live s g o ho).resolve_left hd) (by simp only[Cz.sub,zio h ho hd,hb])
 | _,_,.ptrD s g ix off ad hg hdd=>by
  simp only[Ab.sub];exact .ptrD _ _ _ _ _ (h.deadn s g hg hdd).1 (h.deadn s g hg hdd).2
 | _,_,.cp v vsz off b o cur T fr vals h0 h1 h2 h3 h4 h5=>.cp v vsz off b o cur T fr vals h0 h1 h2 h3 h4 h5
 | _,_,.agg cs vals h1 h2=>by
  simp only[Ab.sub];exact .agg _ vals (fun c hc=>by rw[zci]at hc;obtain⟨d,hd,rfl⟩:=yf6.1 hc;rw[zwm];exact h1 d hd) (AReps.sub h h2)
 | _,_,.fn f cs vals h1=>by simp only[Ab.sub];exact .fn f _ vals (AReps.sub h h1)
 | _,_,.tup vs vals h1=>by simp only[Ab.sub];exact .tup _ vals (AReps.sub h h1)
 | _,_,.skip=>.skip
 | _,_,.undef x=>.undef x
theorem AReps.sub(h:SubOk st st' σ):∀ {v:List AV} {x:List Value},AReps Z st v x->AReps (Z.sub st σ) st' (subL σ v) x
 | _,_,.nil=>.nil
 | _,_,.cons v x vs xs h1 hs=>.cons _ _ _ _ (ARep.sub h h1) (AReps.sub h hs)
end
theorem HRep.sub(h:HRep K Z st w)(hr:SubOk st st' σ):HRep K (Z.sub st σ) st' w:=by
 have back:∀ {s' g':Nat} {o':AObj},st'.obj s' g'=some o'->∃ s g o,st.obj s g=some o/\o'=subO σ o /\ σ s g=(s',g')/\(Z.sub st σ).B s' g'=Z.B s g/\(Z.sub st σ).cap s' g'=Z.cap s g:=by
  intro s' g' o' ho;obtain⟨s,g,o,h1,h2,rfl⟩:=hr.all s' g' o' ho;have hd : σ s g≠(DEAD,0):=fun e=>by rw[h2]at e;cases e;rw[hr.dead.2]at ho;cases ho
  have:=zio hr h1 hd;rw[h2]at this;exact⟨s,g,o,h1,rfl,h2,by simp only[Cz.sub,this],by simp only[Cz.sub,this]⟩
 refine⟨fun s' g' o' ho=>?_,fun s g s' g' o o' b ho ho' hb hb'=>?_,h.mem,fun s g o b ho hb=>?_,fun s g o b ho hb=>?_,h.m0,h.prov,h.keep⟩
 ·obtain⟨s,g,o0,h1,rfl,_,eB,eC⟩:=back ho;obtain⟨k1,k2,k3,k4,k5⟩:=h.objs s g o0 h1;refine⟨k1,fun e he=>?_,fun c hc=>?_,fun hb=>?_,fun b hb=>?_⟩
  ·simp only[subO,zci,yf6]at he;obtain⟨e0,he0,rfl⟩:=he;rw[z9c];exact k2 e0 he0
  ·simp only[subO,zmh,yf6]at hc;obtain⟨c0,hc0,rfl⟩:=hc;rw[zwm];exact k3 c0 hc0
  ·rw[eB]at hb;simp[subO,k4 hb,subL]
  ·rw[eB]at hb;obtain⟨cur,T,vals,e1,e2,e3,e4,e5,e6⟩:=k5 b hb;refine⟨cur,T,vals,e1,?_,e3,by rw[eC];exact e4,by rw[eC];simpa[subO,zci]using e5,by rw[eC];exact e6⟩;show AReps _ _ ((subL σ o0.es).flatMap AV.cells) vals;rw[zmh,<- zci];exact AReps.sub hr e2
 ·obtain⟨t,k,o0,h1,_,q1,eB,_⟩:=back ho;obtain⟨t',k',o0',h1',_,q1',eB',_⟩:=back ho';rw[eB]at hb;rw[eB']at hb';obtain⟨e1,e2⟩:=h.inj _ _ _ _ _ _ b h1 h1' hb hb';subst e1;subst e2;rw[q1]at q1';exact⟨congrArg Prod.fst q1',congrArg Prod.snd q1'⟩
 ·obtain⟨t,k,o0,h1,_,_,eB,_⟩:=back ho;rw[eB]at hb;exact h.sep _ _ _ b h1 hb
 ·obtain⟨t,k,o0,h1,_,_,eB,_⟩:=back ho;rw[eB]at hb;exact h.own _ _ _ b h1 hb
def zxf(st:St)(σ : Sg):Prop:=∀ s g,PINB<=s->s<999999->g<(st.site s).length -> σ s g=(s,g)
theorem Weak.sub(h:SubOk st st' σ)(hp:zxf st σ){keep:List Nat}(hsl:st'.sl=keep.map fun t=>(t,Ab.sub σ (st.get t))):Weak st st':=by
 intro K Z w a hs;have hnd:∀ {s g:Nat},s<999999->(s,g)≠(DEAD,0):=fun h e=>by
  simp_all
 have hlt:∀ s g,PINB<=s->s<999999->g<(st.site s).length->g<(st'.site s).length:=fun s g a b hg=>by
  have e:=hp s g a b hg;cases ho:st.obj s g with
  | none=>have:=(h.deadn s g hg ho).1;rw[e]at this;exact this
  | some o =>
   rcases h.live s g o ho with h1|h1
   ·grind
   ·rw[e]at h1;exact zby h1
 refine⟨Z.sub st σ,⟨fun t=>?_,hs.defers,hs.size,hs.heap.sub h⟩,⟨fun s a b=>?_,fun s g a b hg ho=>?_,fun s g o a b ho=>?_⟩⟩;rotate_left
 ·grind
 ·have:=(h.deadn s g hg ho).2;rw[hp s g a b hg]at this;exact this
 ·have e:=hp s g a b (zby ho);rcases h.live s g o ho with h1|h1
  ·grind
  ·have e2:=zio h ho (by rw[e];exact hnd b);rw[e]at h1 e2;exact .inr ⟨_,h1,rfl,by simp[subO,zci],by simp[Cz.sub,e2],by simp[Cz.sub,e2]⟩
 have:st'.get t=look (keep.map fun t=>(t,Ab.sub σ (st.get t))) t .undef:=by rw[<- hsl];rfl
 rw[this];rcases zla (fun t=>Ab.sub σ (st.get t)) t keep with h'|h'
 ·rw[h'];exact(hs.slots t).sub h
 ·rw[h'];exact .undef _
def zdm(st:St)(s:Nat):List (Nat × Nat)->Option (Nat × Nat)
 | []=>none
 | (x,k)::r=>if x=s then some (0,k)else(zdm st s r).map fun q=>((st.site x).length - k+q.1,q.2)
def zfr(st:St)(s:Nat):List (Nat × List (Nat × Nat))->Option (Nat × Nat × Nat)
 | []=>none
 | (s',l)::r=>match zdm st s l with
  | some q=>some (s',q)
  | none=>zfr st s r
def sgP(st:St)(plan:List (Nat × List (Nat × Nat))):Sg:=fun s g=>match zfr st s plan with
 | some (s',o,k)=>if g<k then(DEAD,0)else(s',o+(g - k))
 | none=>(DEAD,0)
def catS(st:St)(σ : Sg):List (Nat × Nat)->List (Option AObj)
 | []=>[]
 | (x,k)::r=>((st.site x).drop k).map (Option.map (subO σ))++catS st σ r
def hpP(st:St)(σ : Sg):List (Nat × List (Nat × Nat))->List Site
 | []=>[(DEAD,[none])]
 | (s',l)::r=>(s',catS st σ l)::hpP st σ r
def St.plan(st:St)(keep:List Nat)(plan:List (Nat × List (Nat × Nat))):St:=⟨keep.map fun t=>(t,sub (sgP st plan) (st.get t)),hpP st (sgP st plan) plan⟩
def zct(s:Nat):List (Nat × Nat)->Bool
 | (x,k)::_=>x == s&&k == 0
 | []=>false
def zl6(hp:List Site)(plan:List (Nat × List (Nat × Nat))):Bool:=hp.all fun q=>decide (q.1<PINB)||decide (999999<=q.1)||plan.any fun p=>p.1 == q.1&&zct q.1 p.2
def ze4(hp:List Site)(plan:List (Nat × List (Nat × Nat))):Bool:=zl6 hp plan&&zdy (plan.flatMap fun q=>q.2.map (·.1))&&zdy (DEAD::plan.map (·.1))
theorem zh1{s:Nat}:∀ {l:List (Nat × Nat)} {q:Nat × Nat},zdm st s l=some q->s∈l.map (·.1)
 | (x,k)::r,q,h=>by
  simp[zdm]at h;split at h
  ·grind
  ·obtain⟨o',h1,_⟩:=mapS h;exact ygk _ (zh1 h1)
theorem zzy{s g:Nat}:∀ {l:List (Nat × Nat)} {o k:Nat},zdm st s l=some (o,k)->k<=g->g<(st.site s).length->(catS st σ l)[o+(g - k)]?=some (((st.site s)[g]?.getD none).map (subO σ))
 | (x,k0)::r,o,k,h,hk,hg=>by
  simp only[zdm]at h;simp only[catS];split at h
  ·grind
  ·obtain⟨q,h1,h2⟩:=mapS h;obtain⟨o',k'⟩:=q;obtain⟨rfl,rfl⟩:=h2;rw[yhg (by simp;omega),yig,yhk,show(st.site x).length - k0+o'+(g - k') - ((st.site x).length - k0)=o'+(g - k') by omega];exact zzy h1 hk hg
theorem zul{g':Nat}{o':AObj}:∀ {l:List (Nat × Nat)},(l.map (·.1)).Nodup->(catS st σ l)[g']?=some (some o')->∃ s g o off k,zdm st s l=some (off,k)/\k<=g/\off+(g - k)=g'/\st.obj s g=some o/\o'=subO σ o
 | [],_,h=>by simp[catS]at h
 | (x,k)::r,hn,h=>by
  simp only[catS]at h;by_cases hlt:g'<(st.site x).length - k
  ·rw[List.getElem?_append_left (by simpa using hlt),List.getElem?_map,List.getElem?_drop,List.getElem?_eq_getElem (show k+g'<(st.site x).length by omega)]at h;simp only[Option.map_some,Option.some.injEq]at h;obtain⟨o,h1,rfl⟩:=mapS h;exact⟨x,k+g',o,0,k,by simp[zdm],by omega,by omega,by unfold St.obj;rw[List.getElem?_eq_getElem (show k+g'<(st.site x).length by omega),h1];rfl,rfl⟩
  ·rw[List.getElem?_append_right (by simpa using Nat.not_lt.1 hlt),List.length_map,List.length_drop]at h;rw[List.map_cons,List.nodup_cons]at hn;obtain⟨s,g,o,off,k1,h1,h2,h3,h4,h5⟩:=zul hn.2 h;have hne:x≠s:=by rintro rfl;exact hn.1 (zh1 h1)
   exact⟨s,g,o,(st.site x).length - k+off,k1,by simp only[zdm,yf0 hne,h1];rfl,h2,by omega,h4,h5⟩
theorem zxo{s g s2 g2:Nat}:∀ {l:List (Nat × Nat)} {o o2 k k2:Nat},zdm st s l=some (o,k)->zdm st s2 l=some (o2,k2)->k<=g->k2<=g2->g<(st.site s).length->g2<(st.site s2).length->o+(g - k)=o2+(g2 - k2)->s=s2/\g=g2
 | (x,k0)::r,o,o2,k,k2,h,h2,hk,hk2,hg,hg2,e=>by
  simp only[zdm]at h h2;split at h
  ·rename_i e1;subst e1;cases h;split at h2
   ·grind
   ·obtain⟨⟨o',k'⟩,h1,h3⟩:=mapS h2
    grind
  ·obtain⟨⟨o1,k1⟩,h1,h3⟩:=mapS h;simp only[yf5]at h3;obtain⟨rfl,rfl⟩:=h3;split at h2
   ·grind
   ·obtain⟨⟨o',k'⟩,h1',h3'⟩:=mapS h2;simp only[yf5]at h3';obtain⟨rfl,rfl⟩:=h3';exact zxo h1 h1' hk hk2 hg hg2 (by omega)
theorem zgq{s s':Nat}{q:Nat × Nat}:∀ {plan:List (Nat × List (Nat × Nat))},zfr st s plan=some (s',q)->∃ l,(s',l)∈plan/\zdm st s l=some q
 | (s1,l)::r,h=>by
  simp[zfr]at h;split at h
  ·grind
  ·obtain⟨l',h1,h2⟩:=zgq h
   grind
theorem zor{s s':Nat}{q:Nat × Nat}{l:List (Nat × Nat)}:∀ {plan:List (Nat × List (Nat × Nat))},(plan.flatMap fun q=>q.2.map (·.1)).Nodup->(s',l)∈plan->zdm st s l=some q->zfr st s plan=some (s',q)
 | (s1,l1)::r,hn,hm,h=>by
  simp[zfr];rw[yft,yjg]at hn;rcases yf4.1 hm with hm|hm
  ·grind
  ·cases h1:zdm st s l1 with
   | none=>exact zor hn.2.1 hm h
   | some o1=>exact absurd rfl (hn.2.2 s (zh1 h1) s (yg3.2 ⟨_,hm,zh1 h⟩))
theorem zh6{s':Nat}{l:List (Nat × Nat)}:∀ {plan:List (Nat × List (Nat × Nat))},(plan.map (·.1)).Nodup->(s',l)∈plan->look (hpP st σ plan) s' []=catS st σ l
 | (s1,l1)::r,hn,hm=>by
  rw[yfq,ygn]at hn;simp[hpP];rcases yf4.1 hm with hm|hm
  ·grind
  ·rw[yf0]
   ·exact zh6 hn.2 hm
   ·grind
theorem zrx{s':Nat}:∀ {plan:List (Nat × List (Nat × Nat))},s'∉plan.map (·.1)->look (hpP st σ plan) s' []=if DEAD=s' then[none]else[]
 | [],_=>rfl
 | (s1,l1)::r,h=>by simp only[yfq,yf4,not_or]at h;simp[hpP];rw[yf0 (ygr h.1)];exact zrx h.2
theorem zxr{s g:Nat}:(st.site s)[g]?.getD none=st.obj s g:=rfl
theorem zxt{α β : Type}{l:List (α × β)}(hn:(l.map (·.1)).Nodup){x : α}{y y' : β}(h:(x,y)∈l)(h':(x,y')∈l):y=y':=by
 induction l with
 | nil=>cases h
 | cons q r ih =>
  rw[yfq]at hn;rcases yf4.1 h with h|h<;>rcases yf4.1 h' with h'|h'
  ·grind
  ·grind
  ·grind
  ·grind
theorem zxe{keep:List Nat}{plan:List (Nat × List (Nat × Nat))}(h:ze4 st.hp plan=true):SubOk st (st.plan keep plan) (sgP st plan)/\zxf st (sgP st plan):=by
 simp only[ze4,yfr]at h;obtain⟨⟨h1,h2⟩,h3⟩:=h;have n2:=zfk h2;have n3:=zfk h3;rw[ygn]at n3;have hD:=zrx (st:=st) (σ := sgP st plan) n3.1
 have hdead:0<((st.plan keep plan).site DEAD).length/\(st.plan keep plan).obj DEAD 0=none :=
  ⟨by show 0<(look (hpP st (sgP st plan) plan) DEAD []).length;rw[hD];simp,by show((look (hpP st (sgP st plan) plan) DEAD [])[0]?).getD none=none;rw[hD];rfl⟩
 have hfix:zxf st (sgP st plan):=fun s g a b hg=>by
  rcases zh5 (d:=([]:List (Option AObj))) (l:=st.hp) (s:=s)with h3|⟨q,hq,rfl,h3⟩
  ·simp_all
  ·have:=yfp.1 h1 q hq;simp only[yij,decide_eq_true_eq,List.any_eq_true,yfr,beq_iff_eq]at this;rcases this with(h4|h4)|⟨⟨p1,p2⟩,h4,h5,h6⟩
   ·omega
   ·omega
   ·simp only at h5;subst h5;have ho:zdm st q.1 p2=some (0,0):=by
     cases p2 with
     | nil=>cases h6
     | cons y r =>
      obtain⟨x,k⟩:=y;simp only[zct,yfr,beq_iff_eq]at h6;obtain⟨rfl,rfl⟩:=h6;simp only[zdm,yf2]
    unfold sgP;rw[zor n2 h4 ho];simp
 refine⟨⟨fun s g o ho=>?_,fun s g hg ho=>?_,fun s g s' g' o o' ho ho' he hd=>?_,fun s' g' o' ho'=>?_,hdead⟩,hfix⟩
 ·have hg:=zby ho;unfold sgP;cases hf:zfr st s plan with
  | none=>exact .inl rfl
  | some q =>
   obtain⟨s',off,k⟩:=q;by_cases hk:g<k
   ·left;simp only[hk,yf2]
   obtain⟨l,m1,m2⟩:=zgq hf;right;simp only[hk,yf9];show((look (hpP st (sgP st plan) plan) s' [])[off+(g - k)]?).getD none=_;rw[zh6 n3.2 m1,zzy m2 (by omega) hg,zxr,ho];rfl
 ·unfold sgP;cases hf:zfr st s plan with
  | none=>exact hdead
  | some q =>
   obtain⟨s',off,k⟩:=q;by_cases hk:g<k
   ·simp only[hk,yf2];exact hdead
   simp only[hk,yf9];obtain⟨l,m1,m2⟩:=zgq hf;have hc:=zzy (σ := sgP st plan) m2 (show k<=g by omega) hg;refine⟨?_,?_⟩
   ·show off+(g - k)<(look (hpP st (sgP st plan) plan) s' []).length;rw[zh6 n3.2 m1];exact(yh6.1 hc).1
   ·show((look (hpP st (sgP st plan) plan) s' [])[off+(g - k)]?).getD none=none;rw[zh6 n3.2 m1,hc,zxr,ho];rfl
 ·have hg:=zby ho;have hg':=zby ho';unfold sgP at he hd;cases hf:zfr st s plan with
  | none=>rw[hf]at hd;exact absurd rfl hd
  | some q =>
   obtain⟨s1,off,k⟩:=q;rw[hf]at he hd;by_cases hk:g<k
   ·simp only[hk,yf2]at hd;exact absurd rfl hd
   simp only[hk,yf9]at he hd;obtain⟨l,m1,m2⟩:=zgq hf;cases hf':zfr st s' plan with
   | none=>rw[hf']at he;exact absurd he hd
   | some q' =>
    obtain⟨s2,off',k'⟩:=q';rw[hf']at he;by_cases hk':g'<k'
    ·simp only[hk',yf2]at he;exact absurd he hd
    simp only[hk',yf9]at he;obtain⟨l',m1',m2'⟩:=zgq hf';simp only[yf5]at he;obtain⟨rfl,e⟩:=he;obtain rfl:=zxt n3.2 m1 m1';exact zxo m2 m2' (by omega) (by omega) hg hg' e
 ·have ho2:((look (hpP st (sgP st plan) plan) s' [])[g']?).getD none=some o':=ho';by_cases hm:s'∈plan.map (·.1)
  ·obtain⟨⟨s1,l⟩,hm2,rfl⟩:=yf6.1 hm;rw[zh6 n3.2 hm2]at ho2;cases hx:(catS st (sgP st plan) l)[g']? with
   | none=>rw[hx]at ho2;cases ho2
   | some y =>
    rw[hx]at ho2;simp only[yhn]at ho2;subst ho2;have nl:(l.map (·.1)).Nodup:=by
     have:List.Sublist (l.map (·.1)) (plan.flatMap fun q=>q.2.map (·.1)):=by obtain⟨a,b,e⟩:=yju hm2;rw[e,yhm,yft];exact(List.sublist_append_left (l.map (·.1)) _).trans (List.sublist_append_right _ _)
     exact this.nodup n2
    obtain⟨s,g,o,off,k,k1,k2,k3,k4,k5⟩:=zul nl hx;refine⟨s,g,o,k4,?_,k5⟩;unfold sgP;rw[zor n2 hm2 k1];simp only[show ¬ g<k by omega,yf9,k3]
  ·rw[zrx hm]at ho2;exfalso;split at ho2
   ·cases g'<;>simp at ho2
   ·simp at ho2
theorem Weak.plan(keep:List Nat)(plan:List (Nat × List (Nat × Nat)))(h:ze4 st.hp plan=true):Weak st (st.plan keep plan):=Weak.sub (zxe h).1 (zxe (keep:=keep) h).2 rfl
end
end Go.Ab
namespace Go.Ab
section
variable {P:Program} {K:Ctx} {Z Z':Cz} {st st':St} {w w':World} {a:Act}
theorem Weak.freezeObj{s g n:Nat}{o:AObj}{ps:List PV}(ho:st.obj s g=some o)(hp:o.es.mapM (toPV st n)=some ps)(hd:(s,g)∉o.es.flatMap (deps st n)):Weak st ((killAll st (o.es.flatMap (deps st n))).setObj s g ⟨o.sz,ps.map .p⟩):=by
 intro K Z w a hs;generalize hids:o.es.flatMap (deps st n)=ids at hd;have hM:∀ b o,Z.M b=some o->Mx Z st w ids b=some o:=fun b o hb=>Mx_M hb;have hz:ZLe Z st { Z with M:=Mx Z st w ids } (killAll st ids):=(ZLe.killAll ids st).trans (ZLe.growM hM);have hh:HRep K { Z with M:=Mx Z st w ids } (killAll st ids) w:=by
  refine(HRep.killAll ids hs.heap).grow (Keep.refl w _) _ hM (fun b o hb=>?_) (fun b o hb=>?_) (fun s g o b ho hb=>?_)
  ·rcases zbx hb with h|⟨_,h,_⟩
   ·exact hs.heap.mem b o h
   ·exact h
  ·rcases zbx hb with h|⟨_,_,s,g,ob,_,e2,e3⟩
   ·exact .inl h
   ·exact .inr (hs.heap.own s g ob b e2 e3)
  ·obtain⟨ho1,ho2⟩:=zc7 ids st ho;cases hm:Mx Z st w ids b with
   | none=>rfl
   | some y =>
    exfalso;rcases zbx hm with h|⟨_,_,s',g',ob,e1,e2,e3⟩
    ·rw[hs.heap.sep s g o b ho1 hb]at h;cases h
    ·obtain⟨rfl,rfl⟩:=hs.heap.inj s g s' g' o ob b ho1 e2 hb e3;exact ho2 e1
 have ho':=zhe ids ho hd;have hO:=hs.heap.objs s g o ho;have hlen:=zfn hp;have hcl:∀ l:List PV,(l.map AV.p).flatMap AV.cells=(l.flatMap PV.cells).map .p:=fun l=>by
  induction l with
  | nil=>rfl
  | cons q l ih=>rw[yfq,yft,ih,yft,ygx];cases q<;>rfl
 have key:(∀ b,Z.B s g=some b->∃ (cur:Array Value) (T:TypeId) (vals:List Value),w.heap[b]?=some (.cells cur T (0,0))/\PReps (Mx Z st w ids) (ps.flatMap PV.cells) vals /\
   (∀ (i:Nat) (v:Value),vals[i]?=some v->cur[i]?=some v)/\cur.size=Z.cap s g*o.sz/\o.es.length<=Z.cap s g/\Z.cap s g<=maxLen)/\(∀ p∈ps,p.sz=o.sz)/\∀ c∈ps.flatMap PV.cells,c.one=true:=by
  cases hb:Z.B s g with
  | none =>
   have h0:=hO.non hb;rw[h0]at hp;have:=zb9 hp;subst this;exact⟨fun b hb=>(by cases hb),by simp,by simp⟩
  | some b =>
   obtain⟨cur,T,vals,k1,k2,k3,k4,k5,k6⟩:=hO.blk b hb;obtain⟨r1,r2,r3⟩:=zgn (w:=w) (n:=n) (ids:=ids) hO.pos (zf6 hs.heap ids n) k2 hp hO.els hO.one (fun i hi=>by rw[<- hids];exact hi);exact⟨fun b' hb'=>(by cases hb';exact⟨cur,T,vals,k1,r1,k3,k4,k5,k6⟩),r2,r3⟩
 obtain⟨q1,q2,q3⟩:=key;have hss:=hh.same2 ho' (es:=ps.map .p) (by rw[yig,hlen]) (fun x hx=>?_) (fun c hc=>?_) (fun b hb=>?_)
 ·refine⟨{ Z with M:=Mx Z st w ids },⟨fun u=>?_,hs.defers,hs.size,hss⟩,.of_zle (hz.trans (ZLe.setObj _ _ s g o ⟨o.sz,ps.map .p⟩ ho' rfl (by simp[hlen])))⟩;rw[show((killAll st ids).setObj s g ⟨o.sz,ps.map .p⟩).get u=st.get u from zjf (s:=(killAll st ids).setObj s g ⟨o.sz,ps.map .p⟩) (t:=st) (zbh ids st) u];exact ARep.mono (hz.trans (ZLe.setObj _ _ s g o ⟨o.sz,ps.map .p⟩ ho' rfl (by simp[hlen]))) (hs.slots u)
 ·obtain⟨p,hp',rfl⟩:=yf6.1 hx;exact q2 p hp'
 ·rw[hcl]at hc;obtain⟨p,hp',rfl⟩:=yf6.1 hc;exact q3 p hp'
 ·obtain⟨cur,T,vals,e1,e2,e3,e4,e5,e6⟩:=q1 b hb;refine⟨cur,T,vals,e1,?_,e3,e4,e5,e6⟩;rw[hcl];exact AReps.of_p e2
theorem Weak.freezeTo{s g n:Nat}{o:AObj}(ps:List PV)(ids:List (Nat × Nat))(ho:st.obj s g=some o)(hp:o.es.mapM (toPV st n)=some ps)(hi:o.es.flatMap (deps st n)=ids)(hd:(s,g)∉ids):Weak st ((killAll st ids).setObj s g ⟨o.sz,ps.map .p⟩):=by subst hi;exact Weak.freezeObj ho hp hd
end
mutual
def z92:AV->Bool
 | .p u=>u.nomp
 | .cp u _ _=>u.nomp
 | .agg cs=>zmv cs
 | .fn _ cs=>zmv cs
 | .tup cs=>zmv cs
 | _=>true
def zmv:List AV->Bool
 | []=>true
 | v::r=>z92 v&&zmv r
end
section
variable {P:Program} {K:Ctx} {Z Z':Cz} {st st' st1:St} {w w':World} {a:Act} {N:Nat} {A B:Option FA} {Post:Exit->St->Option FA->Prop} {PostI:St->Option FA->Prop} {ac:AC} {q:PinP} {m:MapD}
theorem MR.holds(h:∀ K Z st w,zea A K Z st w->zea B K Z st w)(k:MR P N ac st B Post):MR P N ac st A Post :=
 fun code hc K Z w a Q hN hs hA hQ=>k code hc K Z w a Q hN hs (h _ _ _ _ hA) hQ
mutual
theorem ARep.nomp{M':Nat->Option Obj}(hM:∀ b cur T fr,Z.M b=some (.cells cur T fr)->M' b=some (.cells cur T fr)):∀ {u:AV} {x:Value},ARep Z st u x->z92 u=true->ARep { Z with M:=M' } st u x
 | _,_,.p u x hp,h=>.p u x (PRep.nomp hM hp h)
 | _,_,.nil,_=>.nil
 | _,_,.own0 s g o ho hb,_=>.own0 s g o ho hb
 | _,_,.own s g off len o b ad c ho hb h1 h2 h3 h4,_=>.own s g off len o b ad c ho hb h1 h2 h3 h4
 | _,_,.ownD s g off len ad c hg hd,_=>.ownD s g off len ad c hg hd
 | _,_,.ptr s g ix off o b ho hb,_=>.ptr s g ix off o b ho hb
 | _,_,.ptrD s g ix off ad hg hd,_=>.ptrD s g ix off ad hg hd
 | _,_,.cp u vsz off b o cur T fr vals h0 h1 h2 h3 h4 h5,h=>.cp u vsz off b o cur T fr vals (hM _ _ _ _ h0) h1 h2 h3 (PReps.nomp hM h4 (zip h)) h5
 | _,_,.agg cs vals h1 h2,h=>.agg cs vals h1 (AReps.nomp hM h2 h)
 | _,_,.fn f caps vals h1,h=>.fn f caps vals (AReps.nomp hM h1 h)
 | _,_,.tup vs vals h1,h=>.tup vs vals (AReps.nomp hM h1 h)
 | _,_,.skip,_=>.skip
 | _,_,.undef x,_=>.undef x
theorem AReps.nomp{M':Nat->Option Obj}(hM:∀ b cur T fr,Z.M b=some (.cells cur T fr)->M' b=some (.cells cur T fr)):∀ {u:List AV} {x:List Value},AReps Z st u x->zmv u=true->AReps { Z with M:=M' } st u x
 | _,_,.nil,_=>.nil
 | _,_,.cons u x us xs h1 h2,h=>by simp only[zmv,yfr]at h;exact .cons _ _ _ _ (ARep.nomp hM h1 h.1) (AReps.nomp hM h2 h.2)
end
end
end Go.Ab
namespace Go.Ab
open Enc (enc)
noncomputable def stA(A:GAuto):Nat->Int
 | 0 => -1
 | k+1=>if A.ini.getD k A.ring.zero≠A.ring.zero then(k:Int)else stA A k
end Go.Ab
namespace Go.Ab
open Enc (enc)
attribute [local simp] zai Opd.slots
structure CtrOk (A:GAuto) (N:Nat):Prop where
 inN:A.inN N
 fs:FS A.arcs
 t:∀ x∈A.arcs,0<=x.t/\x.t<(N:Int)
 fl:A.fin.length=N
 fsm:∀ w∈A.fin,w.sm 1048576
 al:A.arcs.length<=2048
 N1:N<=64
noncomputable abbrev cnA(A:GAuto):Nat->Nat->Nat:=cn A.ring A.fin A.arcs
def rowG(N:Nat)(f:Nat->Nat):List GRat:=mp N fun q=>natR (f q)
theorem zbl(N:Nat)(f:Nat->Nat):(rowG N f).length=N:=zbf _ _
theorem zg0{N i:Nat}(f:Nat->Nat)(h:i<(rowG N f).length):(rowG N f)[i]=natR (f i):=zeh (fun q=>natR (f q)) h
def rowC(N k:Nat):AV:=.own 900002 k 0 N
def famQ(T:List (List GRat)):List (Option AObj):=T.map fun l=>some ⟨3,avs l⟩
theorem zrd(N:Nat):∀ l:List Nat,zam [900000,900001,900002] (l.map (rowC N))=true
 | []=>rfl
 | x::l=>by simp only[yfq,zam,rowC,zce];exact zrd N l
theorem zy5(T:List (List GRat)):∀ x∈famQ T,ze5 [900000,900001,900002] x=true:=by intro x hx;obtain⟨l,_,rfl⟩:=yf6.1 hx;show zam _ (avs l)=true;simp
theorem ydr(a m n:Nat)(h1:1<a)(h2:m<n):a^m<a^n:=yk8 h1 h2
theorem yds(a m n:Nat)(h1:0<a)(h2:m<=n):a^m<=a^n:=yg6 h1 h2
theorem zjn{x n:Nat}(h:x<=2048^n)(hn:n<=1000):(natR x).sm 1048576:=by refine zro (yh2 (yf7 h (Nat.pow_le_pow_left (by omega:2048<=4294967296) n)) ?_);exact ydr 4294967296 n 1048576 (by omega) (by omega)
def zR3:AV:=.agg [.p (.bool false),.nil,.nil]
theorem z4f:Sp P F.ba [.int .i64 1,.int .i64 1] (.pure (.tup [enc (natR 1),.int .i64 0])):=by
 have h:=zsz 1 1 (by omega) (by omega);have e:rto (Rat.divInt 1 1)=natR 1:=by rw[<- zrc];congr 1
 simp only[show ¬ ((1:Int)=0) by omega,yf9,e]at h;exact h
theorem zfj{st st':St}(keep:List Nat)(plan:List (Nat × List (Nat × Nat)))(h:ze4 st.hp plan=true)(f:Sg->Prop)(hf:f (sgP st plan))(he:∀ σ,f σ -> (⟨keep.map fun t=>(t,Go.Ab.sub σ (st.get t)),hpP st σ plan⟩:St)=st'):Weak st st':=by have e:st.plan keep plan=st':=he _ hf;exact e ▸ Weak.plan keep plan h
theorem z2q(T:List (List GRat)):(famQ T).length=T.length:=by simp[famQ]
theorem z5g(σ : Sg)(l:List PV):subL σ (l.map .p)=l.map .p:=by rw[zci,yhl];rfl
theorem zet(σ : Sg){α : Type}[Enc α](l:List α):subL σ (avs l)=avs l:=z5g σ (ens l)
theorem z2p(σ : Sg)(T:List (List GRat)):(famQ T).map (Option.map (subO σ))=famQ T:=by unfold famQ;rw[yhl];refine ygc fun l _=>?_;simp only[yjy,yi0,subO,zet]
theorem z1d{σ : Sg}(h:∀ g,σ 900002 g=(900002,g))(N m:Nat):subL σ (mp m (rowC N))=mp m (rowC N):=by rw[zci];unfold mp;rw[yhl];refine ygc fun j _=>?_;simp only[yjy,rowC,sub,h]
theorem zrs{α : Type}(n:Nat)(f:Nat -> α):mp (n+1) f=mp n f++[f n]:=by simp[mp,yjq]
theorem zwo(σ : Sg)(l r:List AV):subL σ (l++r)=subL σ l++subL σ r:=by simp[zci]
end Go.Ab
namespace Go.Ab
open Go.Proofs
end Go.Ab
namespace Go.Ab
open Enc (enc)
attribute [local simp] zai Opd.slots
end Go.Ab
