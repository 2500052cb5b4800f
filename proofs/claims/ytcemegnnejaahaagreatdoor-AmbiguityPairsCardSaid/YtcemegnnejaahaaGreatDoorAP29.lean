/- Lemmas for the law AmbiguityOfDeterministic, part 29. No conditions. -/
import Derived.Test.YtcemegnnejaahaaGreatDoorAP28
set_option maxRecDepth 100000
set_option maxHeartbeats 4000000
set_option linter.all false
namespace Go.Ab
open Enc (enc)
structure GAuto.ok (a:GAuto):Prop where
 ring:a.ring.ok=true
 sy1:1<=a.sy
 sy2:a.sy<=32
 st1:0<=a.st
 st2:a.st<=64
 il:(a.ini.length:Int)=a.st
 fl:(a.fin.length:Int)=a.st
 al:a.arcs.length<=2048
 arcs:∀ x∈a.arcs,inA x a
 ini:∀ w∈a.ini,w.chk a.ring
 fin:∀ w∈a.fin,w.chk a.ring
theorem yel{r:GRing}{l:List GW}:(!l.any fun w => !decide (w.chk r))=true ↔ ∀ w∈l,w.chk r:=by simp
theorem GAuto.vb_iff{a:GAuto}:a.vb=true ↔ a.ok:=by
 unfold GAuto.vb;simp only[ymd,decide_eq_true_eq,yel];constructor
 ·rintro⟨h1,h2,h3,h4,h5,h6,h7,h8,h9,h10,h11⟩;exact⟨h1,h2,h3,h4,h5,h6,h7,h8,fun x hx=>by simpa using (by simpa using h9:∀ x∈a.arcs,inA x a) x hx,h10,h11⟩
 ·rintro⟨h1,h2,h3,h4,h5,h6,h7,h8,h9,h10,h11⟩;exact⟨h1,h2,h3,h4,h5,h6,h7,h8,by simpa using h9,h10,h11⟩
def zx7:GAuto:=⟨⟨0,[]⟩,0,0,[],[],[]⟩
noncomputable def GAuto.nf(a:GAuto):GAuto:=⟨a.ring,a.sy,a.st,a.ini,a.fin,tidA a.ring a.arcs⟩
theorem GAuto.sm.mono{a:GAuto}{m n:Nat}(h:a.sm m)(k:m<=n):a.sm n:=⟨fun w hw=>(h.ini w hw).mono k,fun w hw=>(h.fin w hw).mono k,fun x hx=>(h.arcs x hx).mono k⟩
theorem yed{r:GRing}{l:List GW}(h:∀ w∈l,w.chk r):(l.map fun w=>r.plus w r.zero)=l:=by have:(l.map fun w=>r.plus w r.zero)=l.map id:=ync fun w hw=>zdr (h w hw);rw[this,List.map_id]
theorem yc0{r:GRing}(h:r.ok=true):r.parts.length<=3:=by
 by_cases h6:r.kind=6
 ·exact(GRing.ok_parts h h6).2.1
 ·simp[(GRing.ok_kind h h6).2.2]
theorem zyi(r:GRing)(l:List GW)(n:Nat)(hn:n<=90)(hn1:3<=n)(hr:r.ok=true)(hl:l.length<=64)(h:∀ w∈l,w.sm n)(c:∀ w∈l,w.chk r):Sp P F.jd [enc r,.sl (ens l)] (.pure (.sl (ens l))):=by
 have k:=z9e r l n (by omega) (by omega) (by omega) (fun w hw=>⟨h w hw,c w hw⟩) (z0a hr hn1) (zhi hr)
 rwa[yed c]at k
theorem zza(a:GAuto)(n:Nat)(hn:n<=90)(hn1:3<=n)(h:a.sm n)(hl:a.arcs.length<=19) :
  Sp P F.lg [enc a] (.pure (.tup [enc (if a.vb then a.nf else zx7),.int .i64 (if a.vb then 0 else 4)])):=by
 refine Sp.vz c.lg fun _=>?_;simp[g.lg];refine zab (z0l a (h.mono (by omega))) ?_;cases hv:a.vb
 ·simp[zx7]
 have ok:=GAuto.vb_iff.1 hv;have i1:=ok.il;have i2:=ok.fl;have i3:=ok.st2
 simp;refine zab (z64 a.ring (by have:=yc0 ok.ring;omega)) ?_;simp;refine zab (zyi a.ring a.ini n hn hn1 ok.ring (by omega) h.ini ok.ini) ?_;simp;refine zab (zyi a.ring a.fin n hn hn1 ok.ring (by omega) h.fin ok.fin) ?_;simp;refine zab (z6f a.ring a.arcs n hn hn1 hl fun x hx=>⟨h.arcs x hx,(ok.arcs x hx).2.2.2.2.2.2⟩) ?_;simp[GAuto.nf]
structure GView where
 a:GAuto
 first:List Int
instance:Enc GView:=⟨fun x=>.agg [.int .i64 x.a.ring.kind,.sl (ens x.a.ring.parts),.int .i64 x.a.sy,.int .i64 x.a.st,.sl (ens x.a.ini),.sl (ens x.a.fin),.sl (ens x.a.arcs),.sl (ens x.first)],8,by decide,fun _=>rfl⟩
@[simp] theorem yio(x:GView):enc x=.agg [.int .i64 x.a.ring.kind,.sl (ens x.a.ring.parts),.int .i64 x.a.sy,.int .i64 x.a.st,.sl (ens x.a.ini),.sl (ens x.a.fin),.sl (ens x.a.arcs),.sl (ens x.first)]:=rfl
@[simp] theorem yes:Enc.sz GView=8:=rfl
theorem zvz(v:GView)(w:GW)(hw:w.sm 1048576):Sp P F.gw [enc v,enc w] (.pure (.bool (decide (w=v.a.ring.zero)))):=by refine Sp.vz c.gw fun _=>?_;simp[g.gw];refine zab (zhj v.a.ring) ?_;simp;refine zab (zdx w hw v.a.ring.zero) ?_;simp
theorem ztt(v:GView)(q:Nat)(hq:q<v.a.ini.length)(hw:∀ w∈v.a.ini,w.sm 1048576):Sp P F.bj [enc v,.int .i64 q] (.pure (.bool (decide (v.a.ini[q]≠v.a.ring.zero)))):=by refine Sp.vz c.bj fun _=>?_;simp[g.bj];refine zae hq ?_;refine zab (zvz v v.a.ini[q] (hw _ (ym7 hq))) ?_;simp
theorem z4t(v:GView)(q:Nat)(hq:q<v.a.fin.length)(hw:∀ w∈v.a.fin,w.sm 1048576):Sp P F.bp [enc v,.int .i64 q] (.pure (.bool (decide (v.a.fin[q]≠v.a.ring.zero)))):=by refine Sp.vz c.bp fun _=>?_;simp[g.bp];refine zae hq ?_;refine zab (zvz v v.a.fin[q] (hw _ (ym7 hq))) ?_;simp
theorem zro(v:GView)(hl:v.a.arcs.length<=1000000):Sp P F.kj [enc v] (.pure (.bool (v.a.arcs.any fun x=>decide (x.l=0)))):=by
 refine Sp.vz c.kj fun _=>?_;generalize hr:(v.a.arcs.any fun x=>decide (x.l=0))=res;simp[g.kj]
 refine zag (S:=fun k:Nat=>mkSt [(7,.p (.sl (ens v.a.arcs))),(8,.p (.int .i64 v.a.arcs.length)),(9,.p (.int .i64 k))] []) (I:=fun k=>k<=v.a.arcs.length/\∀ x∈v.a.arcs.take k,x.l≠0) (m:=fun k=>v.a.arcs.length - k) 0
  (Weak.to [7,8,9] [] (by simp)) ⟨by omega,by simp⟩ ?_
 rintro k ⟨h6,h7⟩ R hn' hr' hx;have e1:=i64s k;simp[g.ss,mkSt];refine⟨fun hk=>?_,fun hk=>hx _ _ ?_⟩
 ·refine zae hk ?_;refine⟨fun h0=>hr' _ ?_,fun h0=>?_⟩
  ·have:res=true:=by rw[<- hr];simp only[yp2,decide_eq_true_eq];exact⟨_,ym7 hk,h0⟩
   simp[this]
  ·simp[e1];refine hn' (k+1) _ (Weak.to [7,8,9] [] (by simp[mkSt])) ⟨by omega,fun x hx=>?_⟩ (by omega);rw[ymg hk]at hx;rcases ymc.1 hx with hx|hx
   ·exact h7 x hx
   ·simp only[ymj]at hx;subst hx;exact h0
 ·have hk':k=v.a.arcs.length:=by omega
  have:res=false:=by rw[<- hr,List.any_eq_false];intro x hx;rw[hk',List.take_length]at h7;simpa using h7 x hx
  simp[this]
def natR(n:Nat):GRat:=⟨false,lb n,[]⟩
theorem zp3(n:Nat):rto (n:Rat)=natR n:=by
 have:decide (((n:Nat):Int)<0)=false:=by simp
 unfold rto natR;rw[Rat.num_natCast,Rat.den_natCast,this];simp
theorem zxa(n:Nat):(natR n).v=(n:Rat):=by rw[<- zp3,zgm]
theorem zsm:natR 0=⟨false,[],[]⟩:=by simp[natR]
theorem zxb(a b:Nat):rto ((natR a).v+(natR b).v)=natR (a+b):=by rw[zxa,zxa,<- zp3];congr 1;push_cast;rfl
theorem z7w(a b:Nat):sgnR ((natR a).v - (natR b).v)=if a<b then -1 else if b<a then 1 else 0:=by
 rw[zxa,zxa];have:(a:Rat) - (b:Rat)=(((a:Int) - (b:Int):Int):Rat):=by push_cast;rfl
 rw[this];have key:∀ z:Int,sgnR (z:Rat)=if z=0 then 0 else if z<0 then -1 else 1:=fun z=>by unfold sgnR;rw[Rat.num_intCast]
 rw[key];by_cases h1:a<b
 ·rw[ym0 h1,yl9 (by omega),ym0 (by omega)]
 ·rw[yl9 h1];by_cases h2:b<a
  ·rw[ym0 h2,yl9 (by omega),yl9 (by omega)]
  ·rw[yl9 h2,ym0 (by omega)]
theorem zut{n k:Nat}(h:n<4294967296^k):(natR n).sm k:=⟨zar h,by simp[natR]⟩
def za7(l:List GArc)(q:Nat):List GArc:=l.filter fun x=>decide (x.f=(q:Int))
def ltA(l:List GArc)(q:Nat):Nat:=(l.filter fun x=>decide (x.f<(q:Int))).length
def fstA(l:List GArc)(N:Nat):List Int:=(List.range (N+1)).map fun q=>((ltA l q:Nat):Int)
def FS(l:List GArc):Prop:=l.Pairwise fun x y=>x.f<=y.f
theorem zxk(l:List GArc)(q:Nat):ltA l q<=l.length:=ynk _ _
theorem zqm(l:List GArc)(q:Nat):ltA l (q+1)=ltA l q+(za7 l q).length:=by
 unfold ltA za7
 induction l with
 | nil=>rfl
 | cons x l ih =>
  simp only[yng,decide_eq_true_eq];by_cases h1:x.f<(q:Int)
  ·rw[ym0 (by omega),ym0 h1,yl9 (by omega)];simp only[ymz];omega
  ·by_cases h2:x.f=(q:Int)
   ·rw[ym0 (by omega),yl9 h1,ym0 h2];simp only[ymz];omega
   ·rw[yl9 (by omega),yl9 h1,yl9 h2];exact ih
theorem z4m:∀ {l:List GArc} (q:Nat),FS l->l.drop (ltA l q)=l.filter fun x=>decide ((q:Int)<=x.f)
 | [],_,_=>by simp[ltA]
 | x::l,q,h=>by
  obtain⟨h1,h2⟩:=ymv.1 h;by_cases hx:x.f<(q:Int)
  ·have e:ltA (x::l) q=ltA l q+1:=by simp[ltA,yng,hx]
   rw[e,yqi,z4m q h2,yng,yl9 (by simp;omega)]
  ·have e:ltA (x::l) q=0:=by
    unfold ltA;rw[yq1,yqu];intro y hy;rcases ym3.1 hy with rfl|hy
    ·simpa using hx
    ·have:=h1 y hy;simp;omega
   rw[e,ypc]
   symm
   rw[yqv];intro y hy;rcases ym3.1 hy with rfl|hy
   ·simp;omega
   ·have:=h1 y hy;simp;omega
theorem z4l:∀ {l:List GArc} (q:Nat),FS l->(∀ x∈l,(q:Int)<=x.f)->l.take (za7 l q).length=za7 l q
 | [],_,_,_=>by simp[za7]
 | x::l,q,h,hq=>by
  obtain⟨h1,h2⟩:=ymv.1 h;by_cases hx:x.f=(q:Int)
  ·have e:za7 (x::l) q=x::za7 l q:=by simp[za7,yng,hx]
   rw[e,ymz,ypf,z4l q h2 fun y hy=>hq y (by simp[hy])]
  ·have e:za7 (x::l) q=[]:=by
    unfold za7;rw[yqu];intro y hy;have:=hq x (by simp);rcases ym3.1 hy with rfl|hy
    ·simpa using hx
    ·have:=h1 y hy;simp;omega
   rw[e];rfl
theorem zzl{l:List GArc}(q:Nat)(h:FS l):(l.drop (ltA l q)).take (ltA l (q+1) - ltA l q)=za7 l q:=by
 have e:ltA l (q+1) - ltA l q=(za7 l q).length:=by rw[zqm];omega
 have hf:za7 (l.filter fun x=>decide ((q:Int)<=x.f)) q=za7 l q:=by
  unfold za7;rw[List.filter_filter];apply List.filter_congr;intro x _;by_cases hx:x.f=(q:Int)
  ·simp[hx]
  ·simp[hx]
 rw[e,z4m q h,<- hf];exact z4l q (List.Pairwise.filter _ h) (fun x hx=>by simpa using (List.mem_filter.1 hx).2)
noncomputable def cn(r:GRing)(fin:List GW)(l:List GArc):Nat->Nat->Nat
 | 0=>fun q=>if fin.getD q r.zero=r.zero then 0 else 1
 | n+1=>fun q=>((za7 l q).map fun x=>cn r fin l n x.t.toNat).sum
def mp{α : Type}(n:Nat)(f:Nat -> α):List α := (List.range n).map f
theorem zbr{α : Type}(n:Nat)(f:Nat -> α):(mp n f).length=n:=by simp[mp]
theorem zdv{α : Type}{n i:Nat}(f:Nat -> α)(h:i<(mp n f).length):(mp n f)[i]=f i:=by simp[mp]
theorem zmp{α : Type}{n i:Nat}(f:Nat -> α)(v : α):(mp n f).set i v=mp n fun q=>if q=i then v else f q:=by
 apply yoq
 ·simp[mp]
 ·intro k h1 h2;rw[List.getElem_set];simp only[mp,List.getElem_map,List.getElem_range];by_cases h:i=k
  ·subst h;simp
  ·simp[h,ynr h]
theorem zdm{α : Type}{n:Nat}{f g:Nat -> α}(h:∀ q,q<n->f q=g q):mp n f=mp n g:=ync fun q hq=>h q (yna.1 hq)
theorem zi3{α : Type}(n:Nat)(a : α):mp n (fun _=>a)=List.replicate n a:=by simp[mp,List.map_const']
def ctA(l:List GArc)(q:Nat):Nat:=(l.filter fun x=>decide (x.f+1=(q:Int))).length
theorem z88(l:List GArc)(x:GArc)(q:Nat):ctA (l++[x]) q=if x.f+1=(q:Int)then ctA l q+1 else ctA l q:=by
 unfold ctA;rw[yot,ymy,yng];by_cases h:x.f+1=(q:Int)
 ·simp[h]
 ·simp[h]
theorem z89(l:List GArc)(q:Nat):ctA l (q+1)=(za7 l q).length:=by
 unfold ctA za7;congr 1;apply List.filter_congr;intro x _;by_cases h:x.f=(q:Int)
 ·simp[h]
 ·simp[h]
theorem yhx(l:List GArc)(q:Nat):ctA l q<=l.length:=ynk _ _
def zkz(a:GAuto)(c:AV):AV:=.agg [.p (.int .i64 a.ring.kind),.p (.sl (ens a.ring.parts)),.p (.int .i64 a.sy),.p (.int .i64 a.st),.p (.sl (ens a.ini)),.p (.sl (ens a.fin)),.p (.sl (ens a.arcs)),c]
def z8v:AV:=.agg [.p (.int .i64 0),.nil,.p (.int .i64 0),.p (.int .i64 0),.nil,.nil,.nil,.nil]
def v1S(a:GAuto)(N k:Nat):St:=mkSt [(2,.ptr 2 0 0 0),(4,.ptr 4 0 0 0),(6,.ptr 6 0 0 0),(26,.p (.sl (ens a.arcs))),(27,.p (.int .i64 a.arcs.length)),(28,.p (.int .i64 k))]
 [(2,⟨8,[z8v]⟩),(4,⟨7,[.p (enc a)]⟩),(6,⟨8,[zkz a (.own 23 0 0 (N+1))]⟩),(23,⟨1,avs (mp (N+1) fun q=>((ctA (a.arcs.take k) q:Nat):Int))⟩)]
def pfx(l:List GArc)(i q:Nat):Int:=if q<=i then((ltA l q:Nat):Int)else((ctA l q:Nat):Int)
def v2S(a:GAuto)(N i:Nat):St:=mkSt [(2,.ptr 2 0 0 0),(6,.ptr 6 0 0 0),(43,.p (.int .i64 N)),(44,.p (.int .i64 i))]
 [(2,⟨8,[z8v]⟩),(6,⟨8,[zkz a (.own 23 0 0 (N+1))]⟩),(23,⟨1,avs (mp (N+1) (pfx a.arcs i))⟩)]
structure GAuto.inN (a:GAuto) (N:Nat):Prop where
 st:a.st=(N:Int)
 f:∀ x∈a.arcs,0<=x.f/\x.f<(N:Int)
theorem ybc{a:GAuto}{N:Nat}(h:a.inN N)(hN:N<=1000)(hl:a.arcs.length<=100000){Q:Exit->St->Prop}{ks:List Kt}{st:St}(hw:Weak st (v1S a N 0))(hx:zb8 P 62 Q (zay 0 ks) 0 (v1S a N a.arcs.length)):vL P 62 Q g.q7 ks st:=by
 refine zag (S:=fun k:Nat=>v1S a N k) (I:=fun k=>k<=a.arcs.length) (m:=fun k=>a.arcs.length - k) 0 hw (by omega) ?_;rintro k hk R hn hr hx';have e1:=i64s k;simp[g.q7,v1S,mkSt,zkz,z8v];refine⟨fun hlt=>?_,fun hge=>?_⟩
 ·refine zae hlt ?_;obtain⟨f0,f1⟩:=h.f _ (ym7 hlt);obtain⟨q,hq⟩:∃ q:Nat,a.arcs[k].f=(q:Int):=⟨a.arcs[k].f.toNat,by omega⟩;have hqN:q+1<(mp (N+1) fun q=>((ctA (a.arcs.take k) q:Nat):Int)).length:=by rw[zbr];omega
  have e2:=i64s q;have hc:=yhx (a.arcs.take k) (q+1);rw[yni]at hc;have e3:IntKind.i64.wrap (((ctA (a.arcs.take k) (q+1):Nat):Int)+1)=((ctA (a.arcs.take k) (q+1)+1:Nat):Int):=i64w (by omega) (by omega);simp[hq,e2,zbr];refine⟨⟨by omega,by omega⟩,zae hqN ?_⟩;simp only[zdv,e3,e1];refine⟨⟨by omega,by omega⟩,zae hqN ?_⟩;refine hn (k+1) _ (Weak.to [2,4,6,26,27,28] [((2,0),2),((4,0),4),((6,0),6),((23,0),23)] ?_) (by omega) (by omega);have hset:(avs (mp (N+1) fun q=>((ctA (a.arcs.take k) q:Nat):Int))).set (q+1) (.p (.int .i64 ((ctA (a.arcs.take k) (q+1):Nat)+1)))=avs (mp (N+1) fun q=>((ctA (a.arcs.take (k+1)) q:Nat):Int)):=by
   have:(AV.p (.int .i64 ((ctA (a.arcs.take k) (q+1):Nat)+1)))=.p (enc ((((ctA (a.arcs.take k) (q+1):Nat)+1:Nat)):Int)):=by simp
   rw[this];have hs:∀ (l:List Int) (i:Nat) (v:Int),(avs l).set i (.p (enc v))=avs (l.set i v):=fun l i v=>by simp[-zas,avs,ens,yoo]
   rw[hs,zmp]
   congr 1
   apply zdm;intro j hj;rw[ymg hlt,z88,hq];by_cases hj2:j=q+1
   ·subst hj2;simp
   ·rw[yl9 hj2,yl9 (by omega)]
  simp[v1S,mkSt,zkz,z8v,hset]
 ·have:k=a.arcs.length:=by omega
  subst this;exact hx' _ _ (by simpa[v1S,mkSt,zkz,z8v]using hx)
theorem ybb{a:GAuto}{N:Nat}(hN:N<=1000)(hl:a.arcs.length<=100000){Q:Exit->St->Prop}{ks:List Kt}{st:St}(hw:Weak st (v2S a N 0))(hx:zb8 P 62 Q (zay 2 ks) 2 (v2S a N N)):vL P 62 Q g.q8 ks st:=by
 refine zag (S:=fun k:Nat=>v2S a N k) (I:=fun k=>k<=N) (m:=fun k=>N - k) 0 hw (by omega) ?_;rintro k hk R hn hr hx';have e1:=i64s k;simp[g.q8,v2S,mkSt,zkz,z8v];refine⟨fun hlt=>?_,fun hge=>?_⟩
 ·have hb:k+1<(mp (N+1) (pfx a.arcs k)).length:=by rw[zbr];omega
  have hb0:k<(mp (N+1) (pfx a.arcs k)).length:=by rw[zbr];omega
  have h1:pfx a.arcs k (k+1)=((ctA a.arcs (k+1):Nat):Int):=by simp[pfx];omega
  have h2:pfx a.arcs k k=((ltA a.arcs k:Nat):Int):=by simp[pfx]
  have h3:=zqm a.arcs k;have h4:=zxk a.arcs (k+1);rw[<- z89]at h3;have e3:IntKind.i64.wrap (((ctA a.arcs (k+1):Nat):Int)+((ltA a.arcs k:Nat):Int))=((ltA a.arcs (k+1):Nat):Int):=by rw[i64w (by omega) (by omega)];omega
  simp[e1,zbr];refine⟨⟨by omega,by omega⟩,zae hb ?_⟩;simp only[zdv,h1];refine⟨by omega,zae hb0 ?_⟩;simp only[zdv,h2,e3];refine⟨⟨by omega,by omega⟩,zae hb ?_⟩;refine hn (k+1) _ (Weak.to [2,6,43,44] [((2,0),2),((6,0),6),((23,0),23)] ?_) (by omega) (by omega);have hset:(avs (mp (N+1) (pfx a.arcs k))).set (k+1) (.p (.int .i64 ((ltA a.arcs (k+1):Nat):Int)))=avs (mp (N+1) (pfx a.arcs (k+1))):=by
   have hs:∀ (l:List Int) (i:Nat) (v:Int),(avs l).set i (.p (.int .i64 v))=avs (l.set i v):=fun l i v=>by show(avs l).set i (.p (enc v))=_;simp[-zas,avs,ens,yoo]
   rw[hs,zmp]
   congr 1
   apply zdm;intro j hj;unfold pfx;by_cases hj2:j=k+1
   ·subst hj2;simp
   ·rw[yl9 hj2];by_cases hj3:j<=k
    ·rw[ym0 hj3,ym0 (by omega)]
    ·rw[yl9 hj3,yl9 (by omega)]
  simp[v2S,mkSt,zkz,z8v,hset]
 ·have:k=N:=by omega
  subst this;exact hx' _ _ (by simpa[v2S,mkSt,zkz,z8v]using hx)
end Go.Ab
namespace Go.Ab
open Enc (enc)
attribute [local simp] zaj Opd.slots
def z99:List Int->List GW->List GW->List GW
 | k::ks,v::vs,w::ws=>z98 k v w::z99 ks vs ws
 | _,_,_=>[]
def GRing.times(r:GRing)(v w:GW):GW:=if r.kind=6 then .mk gr0 0 false 0 [] (z99 r.parts v.parts w.parts)else z98 r.kind v w
end Go.Ab
namespace Go.Ab
open Enc (enc)
def mD(n:Nat):Nat:=6^n
def mB(n:Nat):Nat:=6291456^n
def qm(n:Nat)(q:Rat):Prop:=qb (mD n) (mB n) q
structure GW.mb1 (n:Nat) (w:GW):Prop where
 q:qm n w.q.v
 p:∀ e,qm n (pc w.poly e)
structure GW.mb (n:Nat) (w:GW):Prop where
 o:w.mb1 n
 ps:∀ x∈w.parts,x.mb1 n
theorem yat{v w:GW}(h1:v.q=w.q)(h2:v.cost=w.cost)(h3:v.inf=w.inf)(h4:v.set=w.set)(h5:v.poly=w.poly)(h6:v.parts=w.parts):v=w:=by cases v;cases w;simp only[GW.q_mk,GW.cost_mk,GW.inf_mk,GW.set_mk,GW.poly_mk,GW.parts_mk]at h1 h2 h3 h4 h5 h6;subst h1 h2 h3 h4 h5 h6;rfl
theorem yj8{x y:GRat}(hx:x.valid=true)(hy:y.valid=true)(h:x.v=y.v):x=y:=by rw[<- zib hx,<- zib hy,h]
def trop(w:GW):Int:=if w.inf then 1099511627777 else w.cost
theorem zv9{v w:GW}(hv:v.si 2)(hw:w.si 2)(h:trop v=trop w):v=w:=by
 obtain⟨h1,h2,h3,h4,h5,h6,h7⟩:=si2.1 hv;obtain⟨k1,k2,k3,k4,k5,k6,k7⟩:=si2.1 hw;unfold trop at h;refine yat (h2.trans k2.symm) ?_ ?_ (h3.trans k3.symm) (h4.trans k4.symm) (h1.trans k1.symm)
 ·cases hi:v.inf<;>cases hj:w.inf<;>simp[hi,hj]at h<;>try omega
  rw[h7 hi,k7 hj]
 ·cases hi:v.inf<;>cases hj:w.inf<;>simp[hi,hj]at h<;>first|rfl|omega
theorem zff{v w:GW}(hv:v.si 2)(hw:w.si 2):trop (zav 2 v w)=if trop w<trop v then trop w else trop v:=by obtain⟨h1,h2,h3,h4,h5,h6,h7⟩:=si2.1 hv;obtain⟨k1,k2,k3,k4,k5,k6,k7⟩:=si2.1 hw;unfold zav;rw[yl9 (by omega),ym0 rfl];unfold trop;cases hi:v.inf<;>cases hj:w.inf<;>simp[hi,hj]<;>(try split)<;>simp_all<;>omega
theorem zsc{a b c:Rat}(h:a<b)(k:b<c):a<c:=Rat.not_le.1 fun e=>yp1.2 (Rat.le_trans (Rat.le_of_lt k) e) h
theorem z2b{a b c:Rat}(h:a<=b)(k:b<c):a<c:=Rat.not_le.1 fun e=>Rat.not_le.2 k (Rat.le_trans e h)
theorem z2i(x y:GW):zav 3 x y=if x.q.v<y.q.v then y else x:=by simp[zav]
theorem zom{k:Int}(hk:1<=k/\k<=5){v w:GW}(hv:v.si k)(hw:w.si k):zav k v w=zav k w v:=by
 have:k=1\/k=2\/k=3\/k=4\/k=5:=by omega
 rcases this with rfl|rfl|rfl|rfl|rfl
 ·simp only[zav,ym2,yp0]
 ·refine zv9 (zdl hk hv hw) (zdl hk hw hv) ?_;rw[zff hv hw,zff hw hv];split<;>split<;>omega
 ·obtain⟨h1,h2,h3,h4,h5,h6,h7,h8⟩:=si3.1 hv;obtain⟨k1,k2,k3,k4,k5,k6,k7,k8⟩:=si3.1 hw;rw[z2i,z2i];by_cases a:v.q.v<w.q.v
  ·rw[ym0 a,yl9 (yp1.2 (Rat.le_of_lt a))]
  ·by_cases b:w.q.v<v.q.v
   ·rw[yl9 a,ym0 b]
   ·rw[yl9 a,yl9 b];have e:v.q.v=w.q.v:=Rat.le_antisymm (yp1.1 b) (yp1.1 a);exact yat (yj8 h6 k6 e) (h3.trans k3.symm) (h2.trans k2.symm) (h4.trans k4.symm) (h5.trans k5.symm) (h1.trans k1.symm)
 ·simp[zav,UInt64.or_comm]
 ·have pv:=si_p hv;have pw:=si_p hw;have e:padd v.poly w.poly=padd w.poly v.poly:=zp7 (zcn _ pv) (zcn _ pw) fun e=>by rw[zf0 _ (zam.1 pw).1,zf0 _ (zam.1 pv).1,yp0]
  simp[zav,e]
theorem zmh{k:Int}(hk:1<=k/\k<=5){u v w:GW}(hu:u.si k)(hv:v.si k)(hw:w.si k):zav k (zav k u v) w=zav k u (zav k v w):=by
 have:k=1\/k=2\/k=3\/k=4\/k=5:=by omega
 rcases this with rfl|rfl|rfl|rfl|rfl
 ·simp only[zav,ym2,GW.q_mk,zgm,yog]
 ·refine zv9 (zdl hk (zdl hk hu hv) hw) (zdl hk hu (zdl hk hv hw)) ?_;rw[zff (zdl hk hu hv) hw,zff hu hv,zff hu (zdl hk hv hw),zff hv hw]
  repeat' split
  all_goals omega
 ·have s:=z2i;rw[s u v,s v w];by_cases a:u.q.v<v.q.v
  ·rw[ym0 a];by_cases b:v.q.v<w.q.v
   ·rw[ym0 b,s v w,s u w,ym0 b,ym0 (zsc a b)]
   ·rw[yl9 b,s v w,s u v,yl9 b,ym0 a]
  ·rw[yl9 a];by_cases b:v.q.v<w.q.v
   ·rw[ym0 b]
   ·rw[yl9 b,s u w,s u v,yl9 a,yl9];intro c;exact b (z2b (yp1.1 a) c)
 ·simp[zav,GW.set_mk,UInt64.or_assoc]
 ·have pu:=si_p hu;have pv:=si_p hv;have pw:=si_p hw;have e:padd (padd u.poly v.poly) w.poly=padd u.poly (padd v.poly w.poly):=zp7 (zcn _ (zcn _ pu)) (zcn _ pu) fun e=>by rw[zf0 _ (zam.1 pw).1,zf0 _ (zam.1 pv).1,zf0 _ (zam.1 (zcn _ pv)).1,zf0 _ (zam.1 pw).1,yog]
  simp[zav,GW.poly_mk,e]
theorem zy3:∀ {ks:List Int} {vs ws:List GW},(∀ k∈ks,1<=k/\k<=5)->vs.length=ks.length->ws.length=ks.length->(∀ i,(h:i<ks.length)->(h':i<vs.length)->vs[i].si ks[i])->(∀ i,(h:i<ks.length)->(h':i<ws.length)->ws[i].si ks[i])->zec ks vs ws=zec ks ws vs:=by
 intro ks vs ws hk lv lw hv hw;refine yoq (by rw[zbp lv lw,zbp lw lv]) fun i h1 h2=>?_;have h3:i<ks.length:=by rw[zbp lv lw]at h1;exact h1
 rw[zb0 h3 (by omega) (by omega) h1,zb0 h3 (by omega) (by omega) h2];exact zom (hk _ (ym7 h3)) (hv i h3 (by omega)) (hw i h3 (by omega))
theorem zmg{r:GRing}{v w:GW}(cv:v.chk r)(cw:w.chk r):r.plus v w=r.plus w v:=by
 by_cases h6:r.kind=6
 ·have hp:=GRing.ok_parts cv.1 h6;obtain⟨lv,_,sv⟩:=cv.2.2 h6;obtain⟨lw,_,sw⟩:=cw.2.2 h6;simp only[GRing.plus,ym0 h6,zy3 hp.2.2 lv lw sv sw]
 ·have hk:=GRing.ok_kind cv.1 h6;simp only[GRing.plus,yl9 h6];exact zom ⟨hk.1,hk.2.1⟩ (cv.2.1 h6) (cw.2.1 h6)
theorem zhm{r:GRing}{u v w:GW}(cu:u.chk r)(cv:v.chk r)(cw:w.chk r):r.plus (r.plus u v) w=r.plus u (r.plus v w):=by
 by_cases h6:r.kind=6
 ·have hp:=GRing.ok_parts cv.1 h6;obtain⟨lu,_,su⟩:=cu.2.2 h6;obtain⟨lv,_,sv⟩:=cv.2.2 h6;obtain⟨lw,_,sw⟩:=cw.2.2 h6;simp only[GRing.plus,ym0 h6,GW.parts_mk]
  congr 1
  have luv:=zbp lu lv;have lvw:=zbp lv lw;refine yoq (by rw[zbp luv lw,zbp lu lvw]) fun i h1 h2=>?_;have h3:i<r.parts.length:=by rw[zbp luv lw]at h1;exact h1
  rw[zb0 h3 (by omega) (by omega) h1,zb0 h3 (by omega) (by omega) h2,zb0 h3 (by omega) (by omega) (by omega),zb0 h3 (by omega) (by omega) (by omega)];exact zmh (hp.2.2 _ (ym7 h3)) (su i h3 (by omega)) (sv i h3 (by omega)) (sw i h3 (by omega))
 ·have hk:=GRing.ok_kind cv.1 h6;simp only[GRing.plus,yl9 h6];exact zmh ⟨hk.1,hk.2.1⟩ (cu.2.1 h6) (cv.2.1 h6) (cw.2.1 h6)
section
variable (r:GRing)
def wsum(ws:List GW):GW:=ws.foldr r.plus r.zero
variable {r} (hr:r.ok=true)
include hr in
theorem ziq:∀ {ws:List GW},(∀ w∈ws,w.chk r)->(wsum r ws).chk r
 | [],_=>zhi hr
 | w::ws,h=>zlf (h w (by simp)) (ziq fun x hx=>h x (by simp[hx]))
include hr in
theorem zlo{v:GW}(hv:v.chk r):r.plus r.zero v=v:=by rw[zmg (zhi hr) hv];exact zdr hv
include hr in
theorem zlp:∀ {a b:List GW},(∀ w∈a,w.chk r)->(∀ w∈b,w.chk r)->wsum r (a++b)=r.plus (wsum r a) (wsum r b)
 | [],b,_,hb=>(zlo hr (ziq hr hb)).symm
 | w::a,b,ha,hb=>by show r.plus w (wsum r (a++b))=r.plus (r.plus w (wsum r a)) (wsum r b);rw[zlp (fun x hx=>ha x (by simp[hx])) hb,zhm (ha w (by simp)) (ziq hr fun x hx=>ha x (by simp[hx])) (ziq hr hb)]
end
section
variable {α : Type} (key : α -> List Int) (wt : α -> GW) (r:GRing)
def atQ(l:List α)(p:List Int->Bool):GW:=wsum r ((l.filter fun x=>p (key x)).map wt)
variable {key wt r} {up : α -> α -> α} (hr:r.ok=true) (hk:∀ z y,key (up z y)=key z) (hw:∀ z y,wt (up z y)=r.plus (wt z) (wt y))
theorem z5s(p:List Int->Bool):atQ key wt r [] p=r.zero:=rfl
theorem zc9(x : α)(l:List α)(p:List Int->Bool):atQ key wt r (x::l) p=if p (key x)=true then r.plus (wt x) (atQ key wt r l p)else atQ key wt r l p:=by unfold atQ;by_cases h:p (key x)=true<;>simp[h,wsum]
include hr in
theorem zvq{l:List α}(h:∀ x∈l,(wt x).chk r)(p:List Int->Bool):(atQ key wt r l p).chk r:=ziq hr fun w hw=>by obtain⟨x,hx,rfl⟩:=ym5.1 hw;exact h x (yn3.1 hx).1
include hr in
theorem zz9{a b:List α}(ha:∀ x∈a,(wt x).chk r)(hb:∀ x∈b,(wt x).chk r)(p:List Int->Bool):atQ key wt r (a++b) p=r.plus (atQ key wt r a p) (atQ key wt r b p):=by unfold atQ;rw[yot,ynm];exact zlp hr (fun w hw=>by obtain⟨x,hx,rfl⟩:=ym5.1 hw;exact ha x (yn3.1 hx).1) (fun w hw=>by obtain⟨x,hx,rfl⟩:=ym5.1 hw;exact hb x (yn3.1 hx).1)
include hr hk hw in
theorem zyr{x : α}(hx:(wt x).chk r)(p:List Int->Bool):∀ {out:List α},(∀ z∈out,(wt z).chk r)->atQ key wt r (insF key up id out x) p=r.plus (atQ key wt r out p) (if p (key x)=true then wt x else r.zero)
 | [],_=>by
  show atQ key wt r [x] p=_;rw[zc9,z5s,zlo hr (by split;exact hx;exact zhi hr)];split
  ·exact zdr hx
  ·rfl
 | z::o,h=>by
  have hz:=h z (by simp);have ho:∀ y∈o,(wt y).chk r:=fun y hy=>h y (by simp[hy]);have co:=zvq (key:=key) hr ho p;have ce:(if p (key x)=true then wt x else r.zero).chk r:=by split;exact hx;exact zhi hr
  simp only[insF];split
  ·rw[zc9,zc9,zyr hx p ho];split
   ·rw[zhm hz co ce]
   ·rfl
  ·split
   ·rename_i h1 h2;rw[zc9,zc9,hk,hw];by_cases h3:p (key z)=true
    ·rw[ym0 h3,ym0 h3,ym0 (h2 ▸ h3),zhm hz hx co,zhm hz co hx,zmg hx co]
    ·rw[yl9 h3,yl9 h3,yl9 (h2 ▸ h3),zdr co]
   ·show atQ key wt r (x::z::o) p=_;rw[zc9 x];have cz:=zvq (key:=key) hr h p;split
    ·exact zmg hx cz
    ·exact(zdr cz).symm
include hr hk hw in
theorem z5t{l:List α}(h:∀ x∈l,(wt x).chk r)(p:List Int->Bool):∀ n,n<=l.length->(∀ z∈nfm key up id (l.take n),(wt z).chk r)/\atQ key wt r (nfm key up id (l.take n)) p=atQ key wt r (l.take n) p
 | 0,_=>⟨by simp[nfm],rfl⟩
 | n+1,hn=>by
  obtain⟨i1,i2⟩:=z5t h p n (by omega);have hl:n<l.length:=by omega
  have hx:=h _ (ym7 hl);rw[zf2 hl];refine⟨fun z hz=>?_,?_⟩
  ·rcases zqv hz with h1|h1|⟨y,h1,h2⟩
   ·exact i1 z h1
   ·rw[h1];exact hx
   ·rw[h2,hw];exact zlf (i1 y h1) hx
  ·rw[zyr hr hk hw hx p i1,i2,ymg hl,zz9 hr (fun x hx=>h x (yn9 hx)) (fun x hx=>by simp at hx;rw[hx];exact h _ (ym7 hl)),zc9,z5s]
   congr 1
   split
   ·exact(zdr hx).symm
   ·rfl
end
def inT(x:GTArc)(t:GTrans):Prop:=0<=x.f/\x.f<t.st/\0<=x.t/\x.t<t.st/\0<=x.i/\x.i<=t.i/\0<=x.o/\x.o<=t.o/\x.w.chk t.ring
structure GTrans.ok (t:GTrans):Prop where
 ring:t.ring.ok=true
 i1:1<=t.i/\t.i<=32
 o1:1<=t.o/\t.o<=32
 st1:0<=t.st
 st2:t.st<=64
 il:(t.ini.length:Int)=t.st
 fl:(t.fin.length:Int)=t.st
 al:t.arcs.length<=2048
 arcs:∀ x∈t.arcs,inT x t
 ini:∀ w∈t.ini,w.chk t.ring
 fin:∀ w∈t.fin,w.chk t.ring
noncomputable instance (x:GTArc) (a:GTrans):Decidable (inT x a):=Classical.propDecidable _
noncomputable instance (a:GTrans):Decidable a.ok:=Classical.propDecidable _
structure GTrans.sm (a:GTrans) (n:Nat):Prop where
 ini:∀ w∈a.ini,w.sm n
 fin:∀ w∈a.fin,w.sm n
 arcs:∀ x∈a.arcs,x.w.sm n
def swT(x:GTArc):GTArc:=⟨x.f,x.o,x.i,x.t,x.w⟩
section
variable {α : Type} {key : α -> List Int} {wt : α -> GW} {r:GRing} {up : α -> α -> α} (hr:r.ok=true) (hk:∀ z y,key (up z y)=key z) (hw:∀ z y,wt (up z y)=r.plus (wt z) (wt y))
def atK(key : α -> List Int)(wt : α -> GW)(r:GRing)(l:List α)(k:List Int):GW:=atQ key wt r l fun x=>decide (x=k)
theorem zvr{L:List α}{k:List Int}(h:∀ x∈L,key x≠k):atK key wt r L k=r.zero:=by unfold atK atQ;rw[List.filter_eq_nil_iff.2 fun x hx=>by simpa using h x hx];rfl
theorem zvs{L:List α}(s:SSrt key L)(c:∀ x∈L,(wt x).chk r){x : α}(hx:x∈L):atK key wt r L (key x)=wt x:=by
 induction L with
 | nil=>cases hx
 | cons z t ih =>
  have s':=ymv.1 s;unfold atK;rw[zc9];simp only[decide_eq_true_eq];rcases ym3.1 hx with rfl|hx'
  ·rw[ym0 rfl,show atQ key wt r t (fun a=>decide (a=key x))=r.zero from zvr (wt:=wt) (r:=r) fun y hy h=>by have:=s'.1 y hy;rw[h]at this;exact yo7 _ this];exact zdr (c x (by simp))
  ·have hne:¬ key z=key x:=fun h=>by have:=s'.1 x hx';rw[h]at this;exact yo7 _ this
   rw[yl9 hne];exact ih s'.2 (fun y hy=>c y (by simp[hy])) hx'
theorem z1g:∀ {L L':List α},SSrt key L->SSrt key L'->(∀ x,x∈L ↔ x∈L')->L=L'
 | [],[],_,_,_=>rfl
 | [],y::t,_,_,h=>by have:=(h y).2 (by simp);cases this
 | x::t,[],_,_,h=>by have:=(h x).1 (by simp);cases this
 | x::t,y::t',s,s',h=>by
  have p:=ymv.1 s;have p':=ymv.1 s';have exy:x=y:=by
   rcases ym3.1 ((h x).1 (by simp))with e|hx
   ·exact e
   ·rcases ym3.1 ((h y).2 (by simp))with e|hy
    ·exact e.symm
    ·exact absurd (p'.1 x hx) (List.lt_asymm (p.1 y hy))
  subst exy
  congr 1
  refine z1g p.2 p'.2 fun z=>⟨fun hz=>?_,fun hz=>?_⟩
  ·rcases ym3.1 ((h z).1 (by simp[hz]))with e|h1
   ·have:=p.1 z hz;rw[e]at this;exact absurd this (yo7 _)
   ·exact h1
  ·rcases ym3.1 ((h z).2 (by simp[hz]))with e|h1
   ·have:=p'.1 z hz;rw[e]at this;exact absurd this (yo7 _)
   ·exact h1
theorem z8o(ext:∀ x y,key x=key y->wt x=wt y->x=y){L L':List α}(s:SSrt key L)(s':SSrt key L')(c:∀ x∈L,(wt x).chk r)(c':∀ x∈L',(wt x).chk r)(n:∀ x∈L,wt x≠r.zero)(n':∀ x∈L',wt x≠r.zero)(h:∀ k,atK key wt r L k=atK key wt r L' k):L=L':=by
 have one:∀ {L L':List α},SSrt key L->SSrt key L'->(∀ x∈L,(wt x).chk r)->(∀ x∈L',(wt x).chk r)->(∀ x∈L,wt x≠r.zero)->(∀ k,atK key wt r L k=atK key wt r L' k)->∀ x∈L,x∈L':=by
  intro L L' s s' c c' n h x hx;have h1:=h (key x);rw[zvs s c hx]at h1;by_cases he:∃ y∈L',key y=key x
  ·obtain⟨y,hy,e⟩:=he;have h2:=zvs s' c' hy;rw[e,<- h1]at h2;rw[ext x y e.symm h2];exact hy
  ·rw[zvr (wt:=wt) (r:=r) fun y hy e=>he ⟨y,hy,e⟩]at h1;exact absurd h1 (n x hx)
 exact z1g s s' fun x=>⟨one s s' c c' n h x,one s' s c' c n' (fun k=>(h k).symm) x⟩
include hr in
theorem zz8{l:List α}(h:∀ x∈l,(wt x).chk r)(p:List Int->Bool):atQ key wt r (l.filter fun x => !decide (wt x=r.zero)) p=atQ key wt r l p:=by
 induction l with
 | nil=>rfl
 | cons x l ih =>
  have ih':=ih fun y hy=>h y (by simp[hy]);by_cases hz:wt x=r.zero
  ·rw[List.filter_cons_of_neg (by simp[hz]),ih',zc9];split
   ·rw[hz,zlo hr (zvq hr (fun y hy=>h y (by simp[hy])) p)]
   ·rfl
  ·rw[List.filter_cons_of_pos (by simp[hz]),zc9,zc9,ih']
noncomputable def tid(key : α -> List Int)(wt : α -> GW)(r:GRing)(up : α -> α -> α)(l:List α):List α := (mrg key up id (srt key l)).filter fun x => !decide (wt x=r.zero)
include hr hk hw in
theorem zwa{l:List α}(h:∀ x∈l,(wt x).chk r):SSrt key (tid key wt r up l)/\(∀ x∈tid key wt r up l,(wt x).chk r/\wt x≠r.zero)/\∀ p,atQ key wt r (tid key wt r up l) p=atQ key wt r l p:=by
 have hm:=(z3h (key:=key) (up:=up) (nw:=id) hk (fun _=>rfl) l);have hs:=(zhp (key:=key) (up:=up) (nw:=id) hk (fun _=>rfl) _ (srt key l) rfl hm.2).1;have hn:=fun p=>z5t (key:=key) (up:=up) hr hk hw h p l.length (ym9 _);rw[yml]at hn;have e:mrg key up id (srt key l)=nfm key up id l:=hm.1;unfold tid;refine⟨List.Pairwise.filter _ hs,fun x hx=>?_,fun p=>?_⟩
 ·have:=List.mem_filter.1 hx;rw[e]at this;exact⟨(hn fun _=>true).1 x this.1,by simpa using this.2⟩
 ·rw[e,zz8 hr (hn p).1,(hn p).2]
end
theorem zl1(r:GRing)(l:List GArc):tidA r l=tid GArc.key GArc.w r (upA r) l:=rfl
def cmp5(v w:List Int):Int:=if v.length≠w.length then(if v.length<w.length then -1 else 1)else lexI v w
theorem z3v{v w:List Int}{k:Nat}(h:k<v.length)(h':k<w.length):lexI (v.drop k) (w.drop k)=if v[k]<w[k]then -1 else if w[k]<v[k]then 1 else lexI (v.drop (k+1)) (w.drop (k+1)):=by rw[ynt h,ynt h'];rfl
theorem zvh(v w:List Int)(hl:v.length<=1000000000):Sp P F.ii [.sl (ens v),.sl (ens w)] (.pure (.int .i64 (cmp5 v w))):=by
 refine Sp.vz c.ii fun _=>?_;by_cases hlen:v.length=w.length;rotate_left
 ·have hne:¬ (v.length:Int)=w.length:=by omega
  simp[g.ii,hlen,cmp5];by_cases h:v.length<w.length
  ·simp[h];intro h';omega
  ·simp[h];intro h';omega
 have e0:cmp5 v w=lexI v w:=by simp[cmp5,hlen]
 rw[e0];simp[g.ii,hlen]
 refine zag (S:=fun k:Nat=>mkSt [(0,.p (.sl (ens v))),(1,.p (.sl (ens w))),(5,.p (.int .i64 k))] []) (I:=fun k=>k<=v.length/\lexI v w=lexI (v.drop k) (w.drop k)) (m:=fun k=>v.length - k) 0
  (Weak.to [0,1,5] [] (by simp)) ⟨by omega,by simp⟩ ?_
 rintro k ⟨h6,h7⟩ R hn' hr hx;have e1:=i64s k;by_cases hk:k<v.length
 ·have hk':k<w.length:=by omega
  have hd:=z3v hk hk';simp[g.rj,mkSt,hk];refine zae hk ?_;refine zae hk' ?_;refine⟨fun h8=>hr _ ?_,fun h8=>?_⟩
  ·rw[ym0 h8]at hd;simp[h7,hd]
  refine zae hk ?_;refine zae hk' ?_;refine⟨fun h9=>hr _ ?_,fun h9=>?_⟩
  ·rw[yl9 (by omega),ym0 h9]at hd;simp[h7,hd]
  ·rw[yl9 (by omega),yl9 (by omega)]at hd;rw[e1];exact hn' (k+1) _ (Weak.to [0,1,5] [] (by simp[mkSt])) ⟨by omega,by rw[h7,hd]⟩ (by omega)
 ·simp[g.rj,mkSt,hk];refine hx _ _ ?_;have:lexI v w=0:=by rw[h7,ypo (by omega)];rfl
  simp[this]
theorem ztu(m:Int):Sp P F.ka [.int .i64 m] (.pure (.bool (decide (1<=m/\m<=32)))):=by refine Sp.vz c.ka fun _=>?_;simp[g.ka];exact⟨fun h _=>h,fun h h'=>by omega⟩
theorem zx1(v lo hi:Int):Sp P F.cr [.int .i64 v,.int .i64 lo,.int .i64 hi] (.pure (.bool (decide (lo<=v/\v<=hi)))):=by refine Sp.vz c.cr fun _=>?_;simp[g.cr];exact⟨fun h _=>h,fun h h'=>by omega⟩
theorem zlr(r:GRing)(l:List GW)(m:Int)(hl:∀ w∈l,w.sm 1048576)(hlen:l.length<=1000000000):Sp P F.gp [enc r,.sl (ens l),.int .i64 m] (.pure (.bool (decide ((l.length:Int)=m/\∀ w∈l,w.chk r)))):=by
 refine Sp.vz c.gp fun _=>?_;by_cases hm:(l.length:Int)=m;rotate_left
 ·simp[g.gp,hm]
 subst hm;simp[g.gp]
 refine zag (S:=fun k:Nat=>mkSt [(1,.p (.sl (ens l))),(2,.p (.int .i64 l.length)),(3,.ptr 1 0 0 0),(7,.p (.int .i64 k))] [(1,⟨2,[.p (enc r)]⟩)]) (I:=fun k=>k<=l.length/\∀ i,(hi:i<l.length)->i<k->l[i].chk r) (m:=fun k=>l.length - k) 0
  (Weak.to [1,2,3,7] [((3,0),1)] (by simp)) ⟨by omega,fun i _ h=>by omega⟩ ?_
 rintro k ⟨h6,h7⟩ R hn' hr hx;have e1:=i64s k;simp[g.sn,mkSt];refine⟨fun hk=>?_,fun hk=>hx _ _ ?_⟩
 ·refine zae hk ?_
  try simp
  have hmem:=ym7 hk;refine zab (zji r l[k] (hl _ hmem)) ?_;by_cases hc:l[k].chk r
  ·simp[hc,e1];refine hn' (k+1) _ (Weak.to [1,2,3,7] [((1,0),1)] (by simp[mkSt])) ⟨by omega,fun i hi h0=>?_⟩ (by omega);by_cases hik:i<k
   ·exact h7 i hi hik
   ·have:i=k:=by omega
    subst this;exact hc
  ·simp[hc];refine hr _ ?_;simp;exact⟨_,hmem,hc⟩
 ·have:∀ w∈l,w.chk r:=fun x hx=>by obtain⟨i,hi,rfl⟩:=yor.1 hx;exact h7 i hi (by omega)
  simp;exact this
theorem zsh(x y:GArc):Sp P F.ir [enc x,enc y] (.pure (.int .i64 (lexI x.key y.key))):=by refine Sp.vz c.ir fun _=>?_;simp[g.ir];have k:=zvh x.key y.key (by simp[GArc.key]);rw[show cmp5 x.key y.key=lexI x.key y.key from rfl]at k;refine zaa k (by simp[GArc.key]) ?_;simp
theorem zwc(r:GRing)(l:List GW)(hl:∀ w∈l,w.sm 1048576)(hlen:l.length<=1000000):Sp P F.kr [enc r,.sl (ens l)] (.pure (.sl (ens (l.map fun w=>w.tk r)))):=by
 refine Sp.vz c.kr fun _=>?_;simp[g.kr]
 refine zag (S:=fun k:Nat=>mkSt [(1,.p (.sl (ens l))),(2,.ptr 2 0 0 0),(5,.own 1 0 0 k),(6,.p (.int .i64 k))] [(2,⟨2,[.p (enc r)]⟩),(1,⟨8,avs ((l.map fun w=>w.tk r).take k)⟩)]) (I:=fun k=>k<=l.length) (m:=fun k=>l.length - k) 0
  (Weak.nl 5 77 8 rfl (Weak.to [1,2,5,6] [((2,0),2),((77,0),1)] (by simp))) (by omega) ?_
 rintro k h1 R hn' hr hx;have e3:=i64s k;simp[g.s8,mkSt];refine⟨fun hk=>?_,fun hk=>hx _ _ ?_⟩
 ·refine zae hk ?_
  try simp
  refine zab (zb4 r l[k] (hl _ (List.getElem_mem hk))) ?_;have hts:avs ((l.map fun w=>w.tk r).take (k+1))=avs ((l.map fun w=>w.tk r).take k)++[.p (enc (l[k].tk r))]:=by rw[List.take_succ_eq_append_getElem (by simpa using hk),zce];simp
  simp[e3];exact⟨⟨by omega,by omega⟩,hn' (k+1) _ (Weak.to [1,2,5,6] [((2,0),2),((21,0),1)] (by simp[mkSt,hts])) (by omega) (by omega)⟩
 ·have:k=l.length:=by omega
  subst this;have hts:(l.map fun w=>w.tk r).take l.length=l.map fun w=>w.tk r:=ymh (by simp);simp[hts]
theorem z65(r:GRing)(hl:r.parts.length<=1000000):Sp P F.kq [enc r] (.pure (enc r)):=by
 refine Sp.vz c.kq fun _=>?_;simp[g.kq]
 try omega
theorem zdi{a:GAuto}(h:¬ a.ok):a.vb=false:=by
 cases hv:a.vb
 ·rfl
 ·exact absurd (GAuto.vb_iff.1 hv) h
theorem zrp(a:GAuto)(h:a.sm 1048576)(li:a.ini.length<=1000000)(lf:a.fin.length<=1000000):Sp P F.gj [enc a] (.pure (.bool a.vb)):=by
 refine Sp.vz c.gj fun _=>?_;simp[g.gj];refine zaa (zch a.ring) rfl ?_;cases hr:a.ring.ok
 ·simp;exact zdi fun ok=>by rw[ok.ring]at hr;cases hr
 simp;refine zaa (ztu a.sy) rfl ?_;by_cases h1:1<=a.sy/\a.sy<=32;rotate_left
 ·rw[decide_eq_false h1];simp;exact zdi fun ok=>h1 ⟨ok.sy1,ok.sy2⟩
 rw[decide_eq_true h1];simp;refine zaa (zx1 a.st 0 64) rfl ?_;by_cases h2:0<=a.st/\a.st<=64;rotate_left
 ·rw[decide_eq_false h2];simp;exact zdi fun ok=>h2 ⟨ok.st1,ok.st2⟩
 rw[decide_eq_true h2];simp;refine zab (zlr a.ring a.ini a.st h.ini (by omega)) ?_;by_cases h3:(a.ini.length:Int)=a.st/\∀ w∈a.ini,w.chk a.ring;rotate_left
 ·rw[decide_eq_false h3];simp;exact zdi fun ok=>h3 ⟨ok.il,ok.ini⟩
 rw[decide_eq_true h3];simp;refine zab (zlr a.ring a.fin a.st h.fin (by omega)) ?_;by_cases h4:(a.fin.length:Int)=a.st/\∀ w∈a.fin,w.chk a.ring;rotate_left
 ·rw[decide_eq_false h4];simp;exact zdi fun ok=>h4 ⟨ok.fl,ok.fin⟩
 rw[decide_eq_true h4];simp;refine⟨fun h5=>zdi fun ok=>by have:=ok.al;omega,fun h5=>?_⟩
 refine zag (S:=fun k:Nat=>mkSt [(1,.ptr 1 0 0 0),(3,.p (.int .i64 k))] [(1,⟨7,[.p (enc a)]⟩)]) (I:=fun k=>k<=a.arcs.length/\∀ i,(hi:i<a.arcs.length)->i<k->inA a.arcs[i] a) (m:=fun k=>a.arcs.length - k) 0
  (Weak.to [1,3] [((1,0),1)] (by simp)) ⟨by omega,fun i _ h0=>by omega⟩ ?_
 rintro k ⟨h6,h7⟩ R hn hr' hx;have e1:=i64s k;have e2:IntKind.i64.wrap (a.st - 1)=a.st - 1:=by
  by_cases hs:1<=a.st
  ·obtain⟨m,hm⟩:=Int.eq_ofNat_of_zero_le (show 0<=a.st - 1 by omega);rw[hm];exact i64w (by omega) (by omega)
  ·have:a.st=0:=by omega
   rw[this];rfl
 simp[g.sh,mkSt,e2];refine⟨fun hk=>?_,fun hk=>hx _ _ ?_⟩
 ·refine zae hk ?_;have hret:¬ inA a.arcs[k] a->¬ a.ok:=fun h ok=>h (ok.arcs _ (ym7 hk));have hsw:a.arcs[k].w.sm 1048576:=h.arcs _ (ym7 hk);have hnext:inA a.arcs[k] a->∀ i,(hi:i<a.arcs.length)->i<k+1->inA a.arcs[i] a:=fun hx i hi h0=>by
   by_cases hik:i<k
   ·exact h7 i hi hik
   ·have:i=k:=by omega
    subst this;exact hx
  generalize a.arcs[k]=x at *
  refine zaa (zx1 x.f 0 (a.st - 1)) rfl ?_;by_cases h8:0<=x.f/\x.f<=a.st - 1;rotate_left
  ·rw[decide_eq_false h8];simp;refine hr' _ ?_;simp;exact zdi (hret fun hT=>h8 ⟨hT.1,by have:=hT.2.1;omega⟩)
  rw[decide_eq_true h8];simp[e2];refine zaa (zx1 x.t 0 (a.st - 1)) rfl ?_;by_cases h9:0<=x.t/\x.t<=a.st - 1;rotate_left
  ·rw[decide_eq_false h9];simp;refine hr' _ ?_;simp;exact zdi (hret fun hT=>h9 ⟨hT.2.2.1,by have:=hT.2.2.2.1;omega⟩)
  rw[decide_eq_true h9];simp;refine zaa (zx1 x.l 0 a.sy) rfl ?_;by_cases h10:0<=x.l/\x.l<=a.sy;rotate_left
  ·rw[decide_eq_false h10];simp;refine hr' _ ?_;simp;exact zdi (hret fun hT=>h10 ⟨hT.2.2.2.2.1,hT.2.2.2.2.2.1⟩)
  rw[decide_eq_true h10];simp;refine zab (zji a.ring x.w hsw) ?_;by_cases hc:x.w.chk a.ring;rotate_left
  ·simp[hc];refine hr' _ ?_;simp;exact zdi (hret fun hT=>hc hT.2.2.2.2.2.2)
  simp[hc,e1];exact hn (k+1) _ (Weak.to [1,3] [((1,0),1)] (by simp[mkSt])) ⟨by omega,hnext ⟨h8.1,by omega,h9.1,by omega,h10.1,h10.2,hc⟩⟩ (by omega)
 ·have hall:∀ x∈a.arcs,inA x a:=fun x hx=>by obtain⟨i,hi,rfl⟩:=yor.1 hx;exact h7 i hi (by omega)
  have ok:a.ok:=⟨hr,h1.1,h1.2,h2.1,h2.2,h3.1,h4.1,by omega,hall,h3.2,h4.2⟩;simp[GAuto.vb_iff.2 ok]
end Go.Ab
namespace Go.Ab
open Enc (enc)
attribute [local simp] zaj Opd.slots
section
variable {α : Type} {key : α -> List Int} {up : α -> α -> α} {nw : α -> α}
theorem zsx{B:List α}{x : α}:∀ {A:List α},(∀ a∈A,key a<key x)->insF key up nw (A++B) x=A++insF key up nw B x
 | [],_=>rfl
 | a::A,h=>by rw[yon,yon,<- zsx (A:=A) fun b hb=>h b (by simp[hb])];simp[insF,h a (by simp)]
theorem zu3{O:List α}{x : α}{k:Nat}(h:∀ i,(hi:i<O.length)->i<k->key O[i]<key x):insF key up nw O x=O.take k++insF key up nw (O.drop k) x:=by
 have e:=zsx (up:=up) (nw:=nw) (B:=O.drop k) (x:=x) (A:=O.take k) fun a ha=>by obtain⟨i,hi,rfl⟩:=yor.1 ha;have hi':=hi;rw[yni]at hi';rw[List.getElem_take];exact h i (by omega) (by omega)
 rwa[yp3]at e
theorem z8d{O:List α}{x : α}(h:∀ i,(hi:i<O.length)->key O[i]<key x):insF key up nw O x=O++[nw x]:=by rw[zu3 (k:=O.length) fun i hi _=>h i hi];simp[insF]
theorem ydr{O:List α}{x : α}{k:Nat}(hk:k<O.length)(h:∀ i,(hi:i<O.length)->i<k->key O[i]<key x)(he:key O[k]=key x):insF key up nw O x=O.set k (up O[k] x):=by
 rw[zu3 h,ynt hk];have:¬ key O[k]<key x:=by rw[he];exact yo7 _
 simp only[insF,yl9 this,ym0 he];rw[List.set_eq_take_append_cons_drop,ym0 hk]
theorem z8c{O:List α}{x : α}{k:Nat}(hk:k<O.length)(h:∀ i,(hi:i<O.length)->i<k->key O[i]<key x)(h1:¬ key O[k]<key x)(h2:key O[k]≠key x):insF key up nw O x=O.take k++nw x::O.drop k:=by rw[zu3 h,ynt hk];simp[insF,h1,h2]
end
noncomputable def z8p(r:GRing)(l:List GArc):List GArc:=(nfm GArc.key (upA r) id l).filter fun x => !decide (x.w=r.zero)
theorem z4n{r:GRing}{n:Nat}(hn1:1<=n){l:List GArc}(h:∀ x∈l,x.w.sm n/\x.w.chk r)(k:Nat)(hk:k<=l.length) :
  (nfm GArc.key (upA r) id (l.take k)).length<=k/\∀ x∈nfm GArc.key (upA r) id (l.take k),x.w.sm ((k+1)*(n+1))/\x.w.chk r:=by
 refine z3c (up:=upA r) (nw:=id) (Q:=fun k x=>x.w.sm ((k+1)*(n+1))/\x.w.chk r) (fun k x hx=>⟨hx.1.mono (yn1 _ (by omega)),hx.2⟩) (fun x hx=>⟨(h x hx).1.mono (by omega),(h x hx).2⟩) (fun k z x hx hz=>⟨?_,(zlf hz.2 (h x hx).2:(r.plus z.w x.w).chk r)⟩) (fun k x hx=>⟨hx.1.mono (yn1 _ (by omega)),hx.2⟩) k hk;have:=z2h hz.1 (h x hx).1 hz.2 (h x hx).2 (ym6 hn1 (by rw[yn7];omega)) hn1;have e:(k+1)*(n+1)+n+1=(k+1+1)*(n+1):=by rw[yn7 (k+1) 1];omega
 rw[<- e];exact this
theorem zzm(r:GRing)(l:List GArc):z8p r l=tidA r l:=by unfold z8p tidA;rw[(z3h (up:=upA r) (nw:=id) (fun _ _=>rfl) (fun _=>rfl) l).1]
theorem z9w(r:GRing)(l:List GArc)(n:Nat)(hn:n<=90)(hn1:3<=n)(hl:l.length<=19)(h:∀ x∈l,x.w.sm n/\x.w.chk r) :
  Sp P F.ku [enc r,.sl (ens l)] (.pure (.sl (ens (z8p r l)))):=by
 have inv:=z4n (r:=r) (n:=n) (by omega) h;refine Sp.vz c.ku fun _=>?_;simp[g.ku]
 refine zag (S:=fun k:Nat=>mkSt [(1,.p (.sl (ens l))),(2,.ptr 2 0 0 0),(5,.own 1 0 0 (nfm GArc.key (upA r) id (l.take k)).length),(6,.p (.int .i64 k))] [(2,⟨2,[.p (enc r)]⟩),(1,⟨11,avs (nfm GArc.key (upA r) id (l.take k))⟩)]) (I:=fun k=>k<=l.length) (m:=fun k=>l.length - k) 0
  (Weak.nl 5 77 11 rfl (Weak.to [1,2,5,6] [((2,0),2),((77,0),1)] (by simp[nfm]))) (by omega) ?_
 rintro k h1 R hn' hr hx;have e3:=i64s k;obtain⟨iv1,iv2⟩:=inv k h1;generalize hO:nfm GArc.key (upA r) id (l.take k)=O at *
 by_cases hk:k<l.length
 ·have hw:=h _ (ym7 hk);have hnx:=zf2 (key:=GArc.key) (up:=upA r) (nw:=id) hk;rw[hO]at hnx;simp[g.rd,mkSt,hk];refine zae hk ?_
  try simp
  generalize l[k]=x at *
  refine zab (zb4 r x.w (hw.1.mono (by omega))) ?_;rw[z97 hw.2];simp
  refine zag (S:=fun i:Nat=>mkSt [(1,.p (.sl (ens l))),(2,.ptr 2 0 0 0),(5,.own 1 0 0 O.length),(6,.p (.int .i64 k)),(7,.ptr 3 0 0 0),(8,.p (.int .i64 i))] [(2,⟨2,[.p (enc r)]⟩),(1,⟨11,avs O⟩),(3,⟨11,[.p (enc x)]⟩)]) (I:=fun i=>i<=O.length/\∀ j,(hj:j<O.length)->j<i->O[j].key<x.key) (m:=fun i=>O.length - i) 0
   (Weak.to [1,2,5,6,7,8] [((2,0),2),((1,0),1),((7,0),3)] (by simp)) ⟨by omega,fun j _ hj=>by omega⟩ ?_
  rintro i ⟨j1,j2⟩ R2 hn2 hr2 hx2;have e4:=i64s i;by_cases hi:i<O.length
  ·simp[g.rc,mkSt,hi];refine zae hi ?_;refine zab (zsh O[i] x) ?_;have hlt:lexI O[i].key x.key<0 ↔ O[i].key<x.key:=zu0 (by simp[GArc.key]);have hle:lexI O[i].key x.key=0 ↔ O[i].key=x.key:=zu1 (by simp[GArc.key]);simp;refine⟨fun h8=>?_,fun h8=>hx2 _ _ ?_⟩
   ·rw[e4];refine hn2 (i+1) _ (Weak.to [1,2,5,6,7,8] [((2,0),2),((1,0),1),((3,0),3)] (by simp[mkSt])) ⟨by omega,fun j hj h0=>?_⟩ (by omega);by_cases hji:j<i
    ·exact j2 j hj hji
    ·have:j=i:=by omega
     subst this;exact hlt.1 h8
   ·simp[hi];refine zae hi ?_;refine zab (zsh O[i] x) ?_;simp;refine⟨fun h0=>?_,fun h0=>?_⟩
    ·rw[ydr hi j2 (hle.1 h0)]at hnx;have hz:=iv2 _ (ym7 hi);have hb2:(k+1)*(n+1)<=2000:=by have:=ymf (show k+1<=20 by omega) (show n+1<=91 by omega);omega
     have hb3:n<=(k+1)*(n+1):=by rw[yn7];omega
     refine⟨hi,zae hi ?_⟩;refine zab (z7j r O[i].w x.w _ hz.1 (hw.1.mono hb3) hb2 (by omega) hz.2 hw.2) ?_;simp[e3,hi];refine zae hi ?_;refine hn' (k+1) _ (Weak.to [1,2,5,6] [((2,0),2),((1,0),1)] ?_) (by omega) (by omega);rw[hnx];simp[mkSt,upA]
    ·rw[z8c hi j2 (fun h=>by have:=hlt.2 h;omega) (fun h=>h0 (hle.2 h))]at hnx;have hO2:O.length<=19:=by omega
     have hm:min i O.length=i:=by omega
     rw[hm];refine⟨by omega,⟨by omega,by omega⟩,by omega,by omega,⟨by omega,by omega⟩,?_⟩;rw[e3];have hlen:i+1+(O.length - i)=O.length+1:=by omega
     refine hn' (k+1) _ (Weak.to [1,2,5,6] [((2,0),2),((77,0),1)] ?_) (by omega) (by omega);rw[hnx];simp[mkSt,hlen];exact⟨by omega,by rw[ymh (by simp)]⟩
  ·have:i=O.length:=by omega
   subst this;rw[z8d fun j hj=>j2 j hj hj]at hnx;simp[g.rc,mkSt];refine hx2 _ _ ?_;simp;rw[e3];refine⟨by omega,by omega,hn' (k+1) _ (Weak.to [1,2,5,6] [((2,0),2),((77,0),1)] ?_) (by omega) (by omega)⟩;rw[hnx];simp[mkSt]
 ·have:k=l.length:=by omega
  subst this;rw[ymh (ym9 _)]at hO;have hf:z8p r l=O.filter fun x => !decide (x.w=r.zero):=by rw[<- hO];rfl
  have hb2:(l.length+1)*(n+1)<=1048576:=by have:=ymf (show l.length+1<=20 by omega) (show n+1<=91 by omega);omega
  simp[g.rd,mkSt];refine hx _ _ ?_;simp;rw[hf];clear hx hr hn'
  refine zag (S:=fun j:Nat=>mkSt [(2,.ptr 2 0 0 0),(5,.own 1 0 0 O.length),(9,.own 3 0 0 ((O.take j).filter fun x => !decide (x.w=r.zero)).length),(10,.p (.int .i64 j))] [(2,⟨2,[.p (enc r)]⟩),(1,⟨11,avs O⟩),(3,⟨11,avs ((O.take j).filter fun x => !decide (x.w=r.zero))⟩)]) (I:=fun j=>j<=O.length) (m:=fun j=>O.length - j) 0
   (Weak.nl 9 78 11 rfl (Weak.to [2,5,9,10] [((2,0),2),((1,0),1),((78,0),3)] (by simp))) (by omega) ?_
  rintro j j1 R hn' hr hx;have e4:=i64s j;by_cases hj:j<O.length
  ·have hlj:((O.take j).filter fun x => !decide (x.w=r.zero)).length<=j:=ym6 (ynk _ _) (by rw[yni];omega);have hts:(O.take (j+1)).filter (fun x => !decide (x.w=r.zero))=(O.take j).filter (fun x => !decide (x.w=r.zero))++if O[j].w=r.zero then[]else[O[j]]:=by rw[ymg hj,yot];by_cases hz:O[j].w=r.zero<;>simp[hz]
   generalize hT:(O.take j).filter (fun x => !decide (x.w=r.zero))=T at *
   have hz:=iv2 _ (ym7 hj);simp[g.re,mkSt,hj];refine zae hj ?_;refine zab (zo7 r O[j].w (hz.1.mono hb2)) ?_;by_cases h0:O[j].w=r.zero
   ·rw[decide_eq_true h0];simp[e4];rw[ym0 h0]at hts;refine hn' (j+1) _ (Weak.to [2,5,9,10] [((2,0),2),((1,0),1),((3,0),3)] ?_) (by omega) (by omega);rw[hts];simp[mkSt]
   ·rw[decide_eq_false h0];simp[hj];rw[yl9 h0]at hts;refine zae hj ?_;rw[e4];refine⟨by omega,hn' (j+1) _ (Weak.to [2,5,9,10] [((2,0),2),((1,0),1),((98,0),3)] ?_) (by omega) (by omega)⟩;rw[hts];simp[mkSt]
  ·have:j=O.length:=by omega
   subst this;simp[g.re,mkSt];refine hx _ _ ?_;simp
theorem yfu{r:GRing}{l:List GW}(h:∀ w∈l,w.chk r):(l.map fun w=>w.tk r)=l:=by have:(l.map fun w=>w.tk r)=l.map id:=ync fun w hw=>z97 (h w hw);rw[this,List.map_id]
theorem z8q(a:GAuto)(n:Nat)(hn:n<=90)(hn1:3<=n)(h:a.sm n)(hl:a.arcs.length<=19)(hp:a.ring.parts.length<=1000000)(li:a.ini.length<=1000000)(lf:a.fin.length<=1000000)
  (ci:∀ w∈a.ini,w.chk a.ring) (cf:∀ w∈a.fin,w.chk a.ring) (ca:∀ x∈a.arcs,x.w.chk a.ring) :
  Sp P F.j7 [enc a] (.pure (enc a.nf)):=by
 have k1:=zwc a.ring a.ini (fun w hw=>(h.ini w hw).mono (by omega)) li;have k2:=zwc a.ring a.fin (fun w hw=>(h.fin w hw).mono (by omega)) lf;rw[yfu ci]at k1;rw[yfu cf]at k2;have k3:=z9w a.ring a.arcs n hn hn1 hl fun x hx=>⟨h.arcs x hx,ca x hx⟩;rw[zzm]at k3;refine Sp.vz c.j7 fun _=>?_;simp[g.j7];refine zab (z65 a.ring hp) ?_;simp;refine zab k1 ?_;simp;refine zab k2 ?_;simp;refine zab k3 ?_;simp[GAuto.nf]
noncomputable instance:DecidableEq GArc:=fun _ _=>Classical.propDecidable _
noncomputable instance:DecidableEq GTArc:=fun _ _=>Classical.propDecidable _
noncomputable instance:DecidableEq GAuto:=fun _ _=>Classical.propDecidable _
noncomputable instance:DecidableEq GTrans:=fun _ _=>Classical.propDecidable _
theorem yek{x y:GArc}:x=y ↔ x.key=y.key/\x.w=y.w:=by cases x;cases y;simp[GArc.key,and_assoc]
end Go.Ab
namespace Go.Ab
section
variable {α : Type} {key : α -> List Int} {wt : α -> GW} {r:GRing} {up : α -> α -> α}
theorem zt2(hr:r.ok=true)(hk:∀ z y,key (up z y)=key z)(hw:∀ z y,wt (up z y)=r.plus (wt z) (wt y)){l:List α}(h:∀ x∈l,(wt x).chk r){x : α}(hx:x∈tid key wt r up l):∃ y∈l,key y=key x:=by
 obtain⟨s,c,e⟩:=zwa (up:=up) hr hk hw h;by_cases hn:∃ y∈l,key y=key x
 ·exact hn
 ·have h1:=zvs s (fun y hy=>(c y hy).1) hx;unfold atK at h1;rw[e]at h1;have h2:atK key wt r l (key x)=r.zero:=zvr fun y hy e=>hn ⟨y,hy,e⟩;exact absurd (h1.symm.trans h2) (c x hx).2
theorem z0z(hk:∀ z y,key (up z y)=key z)(l:List α):(tid key wt r up l).length<=l.length:=by unfold tid;refine ym6 (ynk _ _) ?_;have h:=(zqh (key:=key) (up:=up) (nw:=id) (Q:=fun _ _=>True) (l:=srt key l) (fun _ _ _=>trivial) (fun _ _=>trivial) (fun _ _ _ _ _=>trivial) (fun _ _ _=>trivial) _ (ym9 _)).1;rw[yml,(zc0 l).2.1]at h;exact h
end
theorem zgr{r:GRing}(hr:r.ok=true){l:List GArc}(h:∀ x∈l,x.w.chk r):SSrt GArc.key (tid GArc.key GArc.w r (upA r) l)/\(∀ x∈tid GArc.key GArc.w r (upA r) l,x.w.chk r/\x.w≠r.zero)/\∀ p,atQ GArc.key GArc.w r (tid GArc.key GArc.w r (upA r) l) p=atQ GArc.key GArc.w r l p:=zwa (key:=GArc.key) (wt:=GArc.w) (up:=upA r) hr (fun _ _=>rfl) (fun _ _=>rfl) h
theorem zw9{a:GAuto}(ok:a.ok):a.nf.ok:=by have hc:∀ x∈a.arcs,x.w.chk a.ring:=fun x hx=>(ok.arcs x hx).2.2.2.2.2.2;refine⟨ok.ring,ok.sy1,ok.sy2,ok.st1,ok.st2,ok.il,ok.fl,ym6 (z0z (key:=GArc.key) (wt:=GArc.w) (r:=a.ring) (up:=upA a.ring) (fun _ _=>rfl) a.arcs) ok.al,fun x hx=>?_,ok.ini,ok.fin⟩;have hx':x∈tid GArc.key GArc.w a.ring (upA a.ring) a.arcs:=hx;obtain⟨y,hy,e⟩:=zt2 (key:=GArc.key) (wt:=GArc.w) (up:=upA a.ring) ok.ring (fun _ _=>rfl) (fun _ _=>rfl) hc hx';obtain⟨a1,a2,a3,a4,a5,a6,_⟩:=ok.arcs y hy;simp only[GArc.key,ypy,and_true]at e;obtain⟨e1,e2,e3⟩:=e;exact⟨e1 ▸ a1,e1 ▸ a2,e3 ▸ a3,e3 ▸ a4,e2 ▸ a5,e2 ▸ a6,((zgr ok.ring hc).2.1 x hx').1⟩
open Enc (enc)
def zat(a:GAuto):GView:=⟨a,fstA a.arcs a.st.toNat⟩
def yau:GView:=⟨zx7,[]⟩
theorem yco(l:List GArc)(N:Nat):mp (N+1) (pfx l N)=fstA l N:=by unfold fstA mp;refine ync fun q hq=>?_;have:=yna.1 hq;simp only[pfx];rw[ym0 (by omega)]
theorem ycp(l:List GArc)(N:Nat)(h:∀ x∈l,0<=x.f):mp (N+1) (fun q=>((ctA (l.take l.length) q:Nat):Int))=mp (N+1) (pfx l 0):=by
 apply zdm;intro q _;rw[yml];unfold pfx;split
 ·have hq:q=0:=by omega
  subst hq
  congr 1
  unfold ctA ltA
  congr 1
  apply List.filter_congr;intro x hx;have:=h x hx;rw[decide_eq_decide];omega
 ·rfl
theorem yas{a:GAuto}(ok:a.ok):a.nf.inN a.st.toNat:=by have k:=zw9 ok;have h1:a.nf.st=a.st:=rfl;have h2:=ok.st1;refine⟨by rw[h1];omega,fun x hx=>?_⟩;have:=k.arcs x hx;rw[show(a.st.toNat:Int)=a.nf.st by rw[h1];omega];exact⟨this.1,this.2.1⟩
theorem zwb(r:GRing)(l:List GArc):(tidA r l).length<=l.length:=by rw[zl1];exact z0z (key:=GArc.key) (wt:=GArc.w) (r:=r) (up:=upA r) (fun _ _=>rfl) l
theorem z0h(a:GAuto)(n:Nat)(hn:n<=90)(hn1:3<=n)(h:a.sm n)(hl:a.arcs.length<=19) :
  Sp P F.ki [enc a] (.pure (.tup [enc (if a.vb then zat a.nf else yau),.int .i64 (if a.vb then 0 else 4)])):=by
 refine Sp.vz c.ki fun _=>?_;simp[g.ki];refine zab (zza a n hn hn1 h hl) ?_;cases hv:a.vb
 ·simp[zx7,yau]
 have ok:=GAuto.vb_iff.1 hv;have hN:=yas ok;have i3:=ok.st2;have hl2:a.nf.arcs.length<=19:=ym6 (zwb a.ring a.arcs) hl;have i5:a.st.toNat<=64:=by omega
 simp only[ym2];generalize a.nf=A at *
 generalize a.st.toNat=N at *
 have e0:=hN.st;have e1:=i64s N;have hb:=ycp A.arcs N fun x hx=>(hN.f x hx).1;simp[e0,e1];refine⟨by omega,?_⟩;refine ybc hN (by omega) (by omega) (Weak.to [2,4,6,26,27,28] [((2,0),2),((4,0),4),((6,0),6),((23,0),23)] ?_) ?_
 ·have:avs (mp (N+1) fun q=>((ctA [] q:Nat):Int))=List.replicate (N+1) (.p (.int .i64 0)):=by
   have:(fun q=>((ctA [] q:Nat):Int))=fun _=>0:=by funext q;simp[ctA]
   rw[this,zi3,zc8];rfl
  simp[v1S,mkSt,zkz,z8v,e0,this]
 ·simp[v1S,mkSt,zkz,z8v,e0];refine ybb (a:=A) (N:=N) (by omega) (by omega) (Weak.to [2,6,43,44] [((2,0),2),((6,0),6),((23,0),23)] ?_) ?_
  ·rw[yml]at hb;simp[v2S,mkSt,zkz,z8v,e0,hb]
  ·rw[v2S,yco];have hlen:(fstA A.arcs N).length=N+1:=by simp[fstA]
   have htk:(fstA A.arcs N).take (N+1)=fstA A.arcs N:=by rw[<- hlen,yml]
   simp[mkSt,zkz,z8v,e0,zat,hlen,htk]
theorem z52(A:GAuto)(N q:Nat)(h:A.inN N)(hs:FS A.arcs)(hq:q<N)(hN:N<=1000)(hl:A.arcs.length<=100000):Sp P F.kz [enc (zat A),.int .i64 q] (.pure (.sl (ens (za7 A.arcs q)))):=by
 refine Sp.vz c.kz fun _=>?_;have e0:=h.st;have e1:=i64s q;have hf:(zat A).first=mp (N+1) fun q=>((ltA A.arcs q:Nat):Int):=by
  have:A.st.toNat=N:=by omega
  simp[zat,fstA,mp,this]
 have hfa:(zat A).a=A:=rfl;have l1:q<(mp (N+1) fun q=>((ltA A.arcs q:Nat):Int)).length:=by rw[zbr];omega
 have l2:q+1<(mp (N+1) fun q=>((ltA A.arcs q:Nat):Int)).length:=by rw[zbr];omega
 have h1:=zqm A.arcs q;have h2:=zxk A.arcs (q+1);have h3:=zzl q hs;simp[g.kz,hf,hfa,e1];refine zae l1 ?_;simp only[zdv];refine zae l2 ?_;simp only[zdv];refine⟨by omega,⟨by omega,by omega,by omega,by omega⟩,?_⟩;simp only[yno];rw[h3]
noncomputable def begC(a:GAuto)(k:Nat):Nat:=((a.ini.take k).filter fun w=>decide (w≠a.ring.zero)).length
def twin(l:List GArc)(k:Nat):Prop:=∃ (h:k<l.length) (h0:0<k),l[k].f=(l[k - 1]'(by omega)).f/\l[k].l=(l[k - 1]'(by omega)).l
def ylm(l:List GArc):Prop:=∀ k,¬ twin l k
open Classical in
structure PinP where
 p:Cz->St->Prop
 m:∀ Z st Z' st',PinLe Z st Z' st'->p Z st->p Z' st'
theorem zhn{st:St}{s g:Nat}{o:AObj}(h:st.site s=[])(ho:st.obj s g=some o):False:=by simp_all
theorem zfa.later{o:Option MapD}{K:Ctx}{Z Z':Cz}{st st':St}{w w':World}(hl:Later Z st w Z' st' w')(h:zfa o K Z st w):zfa o K Z' st' w':=by
 cases o with
 | none=>trivial
 | some m =>
  obtain⟨h1,h2,es,clock,h3,h4,h5,h6⟩:=h;obtain⟨k1,k2⟩:=hl.f _ h1;exact⟨k1,h2,es,clock,by rw[k2];exact h3,h4.mono hl.M,h5.mono hl.M,h6⟩
def hFA(q:PinP)(o:Option MapD):FA:=⟨0,fun _ _=>True,fun _ _ _ _ h=>h,false,true,fun K Z st w=>q.p Z st/\zfa o K Z st w,fun _ _ _ _ _ _ _ hl h=>⟨q.m _ _ _ _ hl.pin h.1,zfa.later hl h.2⟩⟩
structure AOk (o o':Option MapD) (A A':Option FA):Prop where
 get:∀ K Z st w,zem A K Z st w->zfa o K Z st w
 put:∀ K Z st w Z' st' w',zem A K Z st w->LaterX (isR o) Z st w Z' st' w'->zfa o' K Z' st' w'->zem A' K Z' st' w'
section
variable {P:Program} {K:Ctx} {Z Z' Z2:Cz} {st st' st1 st2:St} {w w':World} {a:Act} {N:Nat} {A B:Option FA} {Post:Exit->St->Option FA->Prop} {PostI:St->Option FA->Prop} {ks:List Nat} {v:AV}
def zbb:Nat->List AV->List (Nat × AV)
 | _,[]=>[]
 | i,v::r=>(i,v)::zbb (i+1) r
theorem zo0:∀ (args:List AV) (i t:Nat),look (zbb i args) t AV.undef=if t<i then .undef else(args[t - i]?).getD .undef
 | [],i,t=>by simp[zbb]
 | v::r,i,t=>by
  simp[zbb];split
  ·grind
  ·rename_i h;rw[zo0 r (i+1) t];by_cases h1:t<i
   ·grind
   ·grind
def retH(rs:List (Nat × Option Nat))(v:AV)(hp':List Site)(ex:Exit)(s:St):Prop :=
 (ex=.ret\/ex=.normal)/\∃ s1,Weak s s1/\∃ us,zbd s1 rs=some us/\resOf us=v/\zbk s1 hp' hp'
def resG(hp hp':List Site)(s1:St):HV->AV->Prop
 | .av v,u=>u=v
 | .fr sz es,u=>hp'=hp/\((u=.nil/\es=[])\/∃ s g,(hp.map (·.1)).contains s=false/\u=.own s g 0 es.length/\s1.obj s g=some ⟨sz,es.map .p⟩)
 | .bx sz e us,u=>hp'=hp/\∃ s g,(hp.map (·.1)).contains s=false/\u=.tup (.ptr s g 0 0::us.map .p)/\s1.obj s g=some ⟨sz,[e]⟩
def retG(rs:List (Nat × Option Nat))(hp:List Site)(res:HV)(hp':List Site)(ex:Exit)(s:St):Prop :=
 (ex=.ret\/ex=.normal)/\∃ s1,Weak s s1/\∃ us,zbd s1 rs=some us/\resG hp hp' s1 res (resOf us)/\zbk s1 hp' hp'
theorem HSpG.of_mr{f:FuncId}{vs:List AV}{hp hp':List Site}{o0 o0':Option MapD}{res:HV}{n np:Nat}{b:GC}{rs:List (Nat × Option Nat)}(hc:zac P f=some ⟨n,np,b.er,rs⟩)(hn:vs.length<=n)(hoo:o0'.map (·.1)=o0.map (·.1))
  (hpin:hp.all (fun q=>decide (PINB<=q.1)&&decide (q.1<999999))=true) (hks:hp'.map (·.1)=hp.map (·.1)) (hr:(zen (hp.map (·.1)) res&&hpOk (hp.map (·.1)) hp')=true)
  (h:∀ q:PinP,MR P n b.er ⟨zbb 0 vs,hp⟩ (some (hFA q o0)) fun ex s B=>B=some (hFA q o0')/\retG rs hp res hp' ex s):HSpG P f vs hp o0 res hp' o0':=by
 unfold zac at hc;split at hc
 ·rename_i fn hf;split at hc
  ·rename_i hname;split at hc
   ·rename_i c hb;split at hc
    ·rename_i bd rs' h1 h2;obtain⟨rfl,_,rfl,rfl⟩:=hc;refine⟨⟨fn,hf,by rw[hb];rfl,hname⟩,fun Z w vals hH hmi hv=>?_⟩;refine calls_of_wp hf hb ?_;have hl:=hv.length;have hsi:∀ s,(⟨zbb 0 vs,hp⟩:St).site s=(⟨[],hp⟩:St).site s:=fun _=>rfl;have h0:StRep ⟨w,Z.M,fun b=>ownB Z ⟨[],hp⟩ b\/isR o0 b,fn.ntmps⟩ Z ⟨zbb 0 vs,hp⟩ w { tmps:=vals.toArray++Array.replicate (fn.ntmps - vals.toArray.size) Go.undef,defers:=[] }:=by
      refine⟨fun t=>?_,rfl,by simp;omega,HRep.of_site ⟨hH.objs,hH.inj,hH.mem,hH.sep,hH.own,hH.m0,hH.prov,hH.keep⟩ hsi⟩;have hget:(⟨zbb 0 vs,hp⟩:St).get t=(vs[t]?).getD .undef:=by have:=zo0 vs 0 t;simpa[St.get]using this
      rw[hget];cases hx:vs[t]? with
      | none=>exact .undef _
      | some u =>
       obtain⟨x,g1,g2⟩:=hv.get t u hx;have hlt:=(List.getElem?_eq_some_iff.1 g1).1;have:(vals.toArray++Array.replicate (fn.ntmps - vals.toArray.size) Go.undef).getD t Go.undef=x:=by simp[Array.getElem?_append,hlt];have:=(List.getElem?_eq_some_iff.1 g1).2;simpa using this
       rw[this];exact ARep.mono (zbl hsi Z) g2
     let q:PinP:=⟨fun Z' st'=>PinLe Z ⟨zbb 0 vs,hp⟩ Z' st',fun _ _ _ _ h k=>k.trans h⟩
     have hmi0:zfa o0 ⟨w,Z.M,fun b=>ownB Z ⟨[],hp⟩ b\/isR o0 b,fn.ntmps⟩ Z ⟨zbb 0 vs,hp⟩ w:=by
      cases o0 with
      | none=>trivial
      | some m=>exact⟨⟨hmi.1.m,fun s g o a1=>hmi.1.o s g o a1,hmi.1.lt⟩,hmi.2⟩
     refine h q _ h1 _ _ w _ _ rfl h0 ⟨PinLe.refl _ _,hmi0⟩ (fun ex st' A' Z' w' a' hp1 hs1 hA1=>?_);obtain⟨rfl,hex,s1,hw,us,hus,hv1,hsite1⟩:=hp1;obtain⟨Z1,hs2,hl2⟩:=hw.frame hs1;have hpl:PinLe Z ⟨zbb 0 vs,hp⟩ Z1 s1:=PinLe.trans hA1.1 hl2.pin;have hmi1:=zfa.later hl2 hA1.2;simp only[ymd]at hr;have hsite:∀ s,(hp.map (·.1)).contains s=true->s1.site s=(⟨[],hp'⟩:St).site s:=fun s hs=>by rw[<- hks]at hs;obtain⟨q,hq,rfl⟩:=ym5.1 (ypz.1 hs);exact znu hsite1 q hq
     have hpn:∀ s,(hp.map (·.1)).contains s=true->PINB<=s/\s<999999:=fun s hs=>by obtain⟨q,hq,rfl⟩:=ym5.1 (ypz.1 hs);have:=ymn.1 hpin q hq;rw[ymd,decide_eq_true_eq,decide_eq_true_eq]at this;exact this
     have e0:∀ s,(hp.map (·.1)).contains s=false->(⟨[],hp⟩:St).site s=[]:=fun s h=>zg5 h;have e1:∀ s,(hp.map (·.1)).contains s=false->(⟨[],hp'⟩:St).site s=[]:=fun s h=>zg5 (by rw[hks];exact h);have hz:ZLe Z ⟨[],hp⟩ Z1 ⟨[],hp'⟩:=by
      refine⟨fun b o hb=>hs2.heap.m0 b o hb,fun s=>?_,fun s g hg hd=>?_,fun s g o ho=>?_⟩<;>cases hc:(hp.map (·.1)).contains s
      ·rw[e0 s hc];exact yn0 _
      ·rw[<- hsite s hc];exact hpl.len s (hpn s hc).1 (hpn s hc).2
      ·rw[e0 s hc]at hg;exact absurd hg (yq4 _)
      ·rw[zaf (hsite s hc).symm];exact hpl.dead s g (hpn s hc).1 (hpn s hc).2 hg hd
      ·exact(zhn (e0 s hc) ho).elim
      ·rw[zaf (hsite s hc).symm];exact hpl.live s g o (hpn s hc).1 (hpn s hc).2 ho
     have hH2:HRep (ctxH Z hp o0 w) Z1 ⟨[],hp'⟩ w'/\zfa o0' (ctxH Z hp o0 w) Z1 ⟨[],hp'⟩ w':=by
      have k0:∀ {s g o},(⟨[],hp'⟩:St).obj s g=some o->(hp.map (·.1)).contains s=true:=fun {s g o} ho=>by
       cases h:(hp.map (·.1)).contains s with
       | true=>rfl
       | false=>exact(zhn (e1 s h) ho).elim
      have o0:∀ {s g o},(⟨[],hp'⟩:St).obj s g=some o->s1.obj s g=some o:=fun {s g o} ho=>by rw[zaf (hsite s (k0 ho))];exact ho
      have hq:=hs2.heap
      refine⟨⟨fun s g o ho=>ORep.into (st:=s1) (st2:=⟨[],hp'⟩) (Z2:=Z1) (fun s h=>(hsite s h).symm) (fun _ _ h=>h) (fun _ _ _=>⟨rfl,rfl⟩) (k0 ho) (zqz hr.2 ho) (hq.objs s g o (o0 ho)),fun s g s' g' o o' b a1 a2=>hq.inj s g s' g' o o' b (o0 a1) (o0 a2),hq.mem,fun s g o b a1=>hq.sep s g o b (o0 a1),
       fun s g o b a1 b1=>hq.own s g o b (o0 a1) b1,hq.m0,hq.prov,hq.keep⟩,?_⟩
      cases o0' with
      | none=>trivial
      | some m=>exact⟨⟨hmi1.1.m,fun s g o a1=>hmi1.1.o s g o (o0 a1),hmi1.1.lt⟩,hmi1.2⟩
     have hfin:a'.defers=[]/\∃ u,(results fn a'.tmps).run P w'=.ok u w'/\∃ x Z',Ending.returned u=.returned x/\HRep (ctxH Z hp o0 w) Z' ⟨[],hp'⟩ w'/\HRes res Z' ⟨[],hp'⟩ w w' x/\ZLe Z ⟨[],hp⟩ Z' ⟨[],hp'⟩/\zfa o0' (ctxH Z hp o0 w) Z' ⟨[],hp'⟩ w':=by
      obtain⟨xs,g1,g2⟩:=zjt hs2 h2 hus;have g3:=g2.resOf;have key:hp'=hp->∀ {s g:Nat} {o:AObj} {b:Nat},(hp'.map (·.1)).contains s=false->s1.obj s g=some o->Z1.B s g=some b->(∀ s2 g2 o2,(⟨[],hp'⟩:St).obj s2 g2=some o2->Z1.B s2 g2≠some b)/\w.heap.size<=b:=by
       rintro rfl s g o b hns hob hb;have hne:∀ s2 g2 o2,(⟨[],hp'⟩:St).obj s2 g2=some o2->Z1.B s2 g2≠some b:=fun s2 g2 o2 a1 b1=>by
        have hk:(hp'.map (·.1)).contains s2=true:=by
         cases h:(hp'.map (·.1)).contains s2 with
         | true=>rfl
         | false=>exact(zhn (e0 s2 h) a1).elim
        obtain⟨rfl,rfl⟩:=hs2.heap.inj _ _ _ _ _ _ b hob (by rw[zaf (hsite s2 hk)];exact a1) hb b1;rw[hk]at hns;cases hns
       refine⟨hne,?_⟩;rcases hs2.heap.own s g _ b hob hb with(hX|hX)|hX
       ·exfalso;obtain⟨s3,g3,o3,c1,c2⟩:=hX;have hk:(hp'.map (·.1)).contains s3=true:=by
         cases h:(hp'.map (·.1)).contains s3 with
         | true=>rfl
         | false=>exact(zhn (e0 s3 h) c1).elim
        have c3:s1.obj s3 g3=some o3:=by rw[zaf (hsite s3 hk)];exact c1
        rcases hpl.live s3 g3 o3 (hpn s3 hk).1 (hpn s3 hk).2 c1 with d1|⟨o4,d1,d2,d3,d4,d5⟩
        ·rw[c3]at d1;cases d1
        ·exact hne s3 g3 o3 c1 (by rw[d4];exact c2)
       ·exfalso;cases o0 with
        | none=>exact hX.elim
        | some m =>
         cases o0' with
         | none=>cases hoo
         | some m' =>
          have e:m'.1=m.1:=by simpa using hoo
          have hX:b=m.1:=hX;rw[hX,<- e]at hb;exact hmi1.1.o _ _ _ hob hb
       ·exact hX
      have g4:HRes res Z1 ⟨[],hp'⟩ w w' (if h:xs.toArray.size=1 then xs.toArray[0]else .tuple xs.toArray):=by
       generalize (if h:xs.toArray.size=1 then xs.toArray[0]else .tuple xs.toArray)=x at g3;cases res with
       | av v =>
        have hv1:resOf us=v:=hv1;rw[hv1]at g3;exact ARep.into (st:=s1) (st2:=⟨[],hp'⟩) (Z2:=Z1) (fun s h=>(hsite s h).symm) (fun _ _ h=>h) (fun _ _ _=>⟨rfl,rfl⟩) g3 hr.1
       | bx sz e us' =>
        obtain⟨ehp,s,g,hns,e1,hob⟩:=hv1;rw[e1]at g3;have hO:=hs2.heap.objs s g _ hob;cases g3 with
        | tup _ vals hvs =>
         cases hvs with
         | cons _ x0 _ ys hx0 hys =>
          cases hx0 with
          | ptrD _ _ _ _ _ _ hd=>exact(za5 hob hd).elim
          | ptr _ _ _ _ o' b ho' hb =>
           rw[hob]at ho';cases ho';obtain⟨cur,T,vals,l1,l2,l3,l4,l5,l6⟩:=hO.blk b hb;obtain⟨k1,k2⟩:=key ehp (by rw[ehp];exact hns) hob hb;simp only[List.flatMap_cons,List.flatMap_nil,List.append_nil]at l2;refine⟨b,_,cur,T,vals,ys,by simp,hys.to_p,k2,hs2.heap.sep s g _ b hob hb,l1,?_,l3,l4,⟨by simpa using l5,l6⟩,fun q hq=>?_,k1⟩
           ·simp only[zen,ymd]at hr;exact AReps.into (st:=s1) (st2:=⟨[],hp'⟩) (Z2:=Z1) (fun s h=>(hsite s h).symm) (fun _ _ h=>h) (fun _ _ _=>⟨rfl,rfl⟩) l2 (zic hr.1.2)
           ·exact hO.one q (by simpa using hq)
       | fr sz es =>
        obtain⟨ehp,hv1⟩:=hv1;rcases hv1 with⟨e1,rfl⟩|⟨s,g,hns,e1,hob⟩
        ·rw[e1]at g3;cases g3;exact⟨.inl ⟨rfl,rfl⟩,fun b n c h=>by cases h⟩
        ·rw[e1]at g3;have hO:=hs2.heap.objs s g _ hob;generalize hL:es.length=L at g3;cases g3 with
         | own0 _ _ o' ho' hb =>
          have h0:=hO.non hb;have h0':es=[]:=by simpa using h0
          subst h0';exact⟨.inl ⟨rfl,rfl⟩,fun b n c h=>by cases h⟩
         | ownD _ _ _ _ _ _ _ hd=>exact(za5 hob hd).elim
         | own _ _ _ _ o' b ad c ho' hb k1 k2 k3 k4 =>
          rw[hob]at ho';cases ho';subst hL;obtain⟨rfl,rfl⟩:=k1 rfl;obtain⟨cur,T,vals,l1,l2,l3,l4,l5,l6⟩:=hO.blk b hb;obtain⟨hne,hnew⟩:=key ehp (by rw[ehp];exact hns) hob hb;refine⟨.inr ⟨b,_,cur,T,vals,rfl,hnew,hs2.heap.sep s g _ b hob hb,l1,?_,l3,l4,by simpa using l5,l6,fun q hq=>?_⟩,fun b' n c hx=>by cases hx;exact hne⟩
          ·rw[zal]at l2;exact l2.to_p
          ·have:=hO.one (.p q) (by rw[zal];exact ym5.2 ⟨q,hq,rfl⟩);exact this
      refine⟨hs2.defers,_,?_,_,Z1,rfl,hH2.1,g4,hz,hH2.2⟩;unfold results;rw[ypm];simp only[ymw,map_eq_pure_bind,yn2];exact congrArg (fun r=>(Result.andThen r fun a w'=>Result.ok a.toArray w').andThen fun(a:Array Value) w'=>Result.ok (if h:a.size=1 then a[0]else Value.tuple a) w') g1
     rcases hex with rfl|rfl
     ·exact hfin
     ·exact hfin
    ·cases hc
   ·cases hc
  ·cases hc
 ·cases hc
theorem HSp.of_mr{f:FuncId}{vs:List AV}{hp hp':List Site}{n np:Nat}{b:GC}{rs:List (Nat × Option Nat)}(hc:zac P f=some ⟨n,np,b.er,rs⟩)(hn:vs.length<=n)
  (hpin:hp.all (fun q=>decide (PINB<=q.1)&&decide (q.1<999999))=true) (hks:hp'.map (·.1)=hp.map (·.1)) (hr:(zda (hp.map (·.1)) v&&hpOk (hp.map (·.1)) hp')=true)
  (h:∀ A:FA,A.nb=true->MR P n b.er ⟨zbb 0 vs,hp⟩ (some A) fun ex s B=>B=some A/\retH rs v hp' ex s):HSp P f vs hp v hp' :=
 HSpG.of_mr hc hn rfl hpin hks hr fun q=>h (hFA q none) rfl
end
end Go.Ab
