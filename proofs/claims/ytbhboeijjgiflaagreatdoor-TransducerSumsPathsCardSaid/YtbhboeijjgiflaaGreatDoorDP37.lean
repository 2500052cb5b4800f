/-
Proofs for the law TransducerSumsPaths, part 37. Conditions: none.
-/
import Derived.Test.YtbhboeijjgiflaaGreatDoorDP36
import Derived.Test.YtbhboeijjgiflaaGreatDoorDP23
set_option maxRecDepth 100000
set_option maxHeartbeats 4000000
set_option linter.all false
namespace Go.Ab
open Enc (enc)
theorem zzw(x:GTArc)(r:GRing)(hw:x.w.sm 1048576):Sp P F.gp [enc x,.ref (enc r)] (.pure (.bool (decide (x.w=r.zero)))):=by refine Sp.of_vmW c.gp (by simp) (Weak.openRef (t:=1) (v:=enc r) (n:=2) (by simp[go_sem]) (by simp[go_sem])) ?_;simp[g.gp,go_sem];refine zab (zqe r x.w hw) ?_;simp[go_sem]
def upT(r:GRing)(z y:GTArc):GTArc:=⟨z.f,z.i,z.o,z.t,r.plus z.w y.w⟩
noncomputable def tidT(r:GRing)(l:List GTArc):List GTArc:=(mrg GTArc.key (upT r) id (srt GTArc.key l)).filter fun x => !decide (x.w=r.zero)
theorem zs8{r:GRing}{n:Nat}(hn1:1<=n){l:List GTArc}(h:∀ x∈l,x.w.sm n/\x.w.chk r)(k:Nat)(hk:k<=l.length) :
  (mrg GTArc.key (upT r) id (l.take k)).length<=k/\∀ x∈mrg GTArc.key (upT r) id (l.take k),x.w.sm ((k+1)*(n+1))/\x.w.chk r:=by
 refine zkv (up:=upT r) (nw:=id) (Q:=fun k x=>x.w.sm ((k+1)*(n+1))/\x.w.chk r) (fun k x hx=>⟨hx.1.mono (ymu _ (by omega)),hx.2⟩) (fun x hx=>⟨(h x hx).1.mono (by omega),(h x hx).2⟩) (fun k z x hx hz=>⟨?_,(zbu hz.2 (h x hx).2:(r.plus z.w x.w).chk r)⟩) (fun k x hx=>⟨hx.1.mono (ymu _ (by omega)),hx.2⟩) k hk;have:=z3e hz.1 (h x hx).1 hz.2 (h x hx).2 (ymm hn1 (by rw[yn7];omega)) hn1;have e:(k+1)*(n+1)+n+1=(k+1+1)*(n+1):=by rw[yn7 (k+1) 1];omega
 rw[<- e];exact this
theorem z7e(r:GRing)(l:List GTArc)(n:Nat)(hn:n<=90)(hn1:3<=n)(hl:l.length<=19)(h:∀ x∈l,x.w.sm n/\x.w.chk r) :
  Sp P F.jp [enc r,.sl (ens l)] (.pure (.sl (ens (tidT r l)))):=by
 have hs:=zb4 (key:=GTArc.key) l;have h':∀ x∈srt GTArc.key l,x.w.sm n/\x.w.chk r:=fun x hx=>h x ((hs.2.2 x).1 hx);have inv:=zs8 (by omega) h';unfold tidT;generalize hS:srt GTArc.key l=S at *
 have hSl:S.length=l.length:=hs.2.1;have hone:∀ x:GTArc,(enc x).cells.all PV.one=true:=fun x=>by simp[go_sem,PV.cells]
 refine Sp.vz c.jp fun _=>?_;simp[g.jp,go_sem];refine zuw (zpa l (by omega)) (by simp[go_sem]) ⟨zdx _ _ rfl,by decide,by simp[ens,LIM];omega⟩ (by simp[go_sem]) ?_;simp[go_sem];refine z1a (zow rfl hone GTArc.key F.dt l hl fun x hx y hy=>⟨_,zpy x y,zv7 rfl⟩) (by simp[go_sem]) rfl rfl (by simp) (by simp[go_sem]) (by simp[go_sem,hS,hSl]) rfl (zdx _ _ rfl) (cells_one hone _) (by simp[go_sem]) ?_;simp[go_sem];rw[hS];have hone':3<=n+1:=by omega
 refine zai (S:=fun k:Nat=>mkSt [(2,.ptr 2 0 0 0),(6,.own 1 0 0 (mrg GTArc.key (upT r) id (S.take k)).length),(14,.own 3 0 0 S.length),(15,.p (.int .i64 S.length)),(16,.p (.int .i64 k))] [(2,⟨2,[.p (enc r)]⟩),(1,⟨12,avs (mrg GTArc.key (upT r) id (S.take k))⟩),(3,⟨12,avs S⟩)]) (I:=fun k=>k<=S.length) (m:=fun k=>S.length - k) 0
  (Weak.nl 6 77 12 rfl (Weak.to [2,6,14,15,16] [((2,0),2),((77,0),1),((11,0),3)] (by simp[go_sem,hSl,mrg]))) (by omega) ?_
 rintro k h1 R hn' hr hx;have e3:=i64s k (by omega);obtain⟨iv1,iv2⟩:=inv k h1;generalize hO:mrg GTArc.key (upT r) id (S.take k)=O at *
 by_cases hk:k<S.length;rotate_left
 ·have:k=S.length:=by omega
  subst this;rw[ymq (ym8 _)]at hO;rw[hO]at hx hr;have hb:(O.length+1)*(n+1)<=1048576:=by have:=yn4 (show O.length+1<=20 by omega) (show n+1<=91 by omega);omega
  have hb2:(S.length+1)*(n+1)<=1048576:=by have:=yn4 (show S.length+1<=20 by omega) (show n+1<=91 by omega);omega
  simp[g.n4,mkSt,go_sem];refine hx _ _ ?_;simp[go_sem];refine z09 (zsf F.gp [.ref (enc r)] (fun x=>decide (x.w=r.zero)) O (by omega) fun x hx=>zzw x r ((iv2 x hx).1.mono hb2)) (by simp[go_sem,zjc,zqy]) rfl rfl (by simp) (by simp[go_sem]) (by simp[go_sem];have:=yoh (fun x:GTArc => !decide (x.w=r.zero)) O;omega) rfl (zdx _ _ rfl) (cells_one hone _) (by simp[go_sem]) (yoh _ _) ?_;generalize hF:O.filter (fun x => !decide (x.w=r.zero))=F0 at *
  have hFl:F0.length<=O.length:=by rw[<- hF];exact yoh _ _
  have hA1:=z7h F0 (List.replicate (O.length - F0.length) (⟨0,0,0,0,gw0'⟩:GTArc));have hA2:F0.length<=(ens (F0++List.replicate (O.length - F0.length) (⟨0,0,0,0,gw0'⟩:GTArc))).length:=by simp[ens]
  generalize ens (F0++List.replicate (O.length - F0.length) (⟨0,0,0,0,gw0'⟩:GTArc))=A0 at *
  cases hfl:A0.all PV.flat
  ·simp[go_sem,killAll];rw[hA1];simp[go_sem,hA2]
  ·simp[go_sem,killAll];rw[hA1];simp[go_sem,hA2]
 have hw:=h' _ (ym3 hk);have hnx:=zjv (key:=GTArc.key) (up:=upT r) (nw:=id) hk;rw[hO]at hnx;have cz:=zbd hw.2.1;have sz:=zu2 (n:=n) hw.2.1 hn1;have pz:=zc7 hw.2;rcases yrz O with rfl|⟨o,z,rfl⟩
 ·simp[g.n4,mkSt,go_sem,hk];refine zae hk ?_;refine zaa (zgg r) rfl ?_;simp[go_sem];refine zab (zmh r S[k].w r.zero n hw.1 sz (by omega) (by omega) hw.2 cz) ?_;rw[pz];simp[go_sem,e3];refine hn' (k+1) _ (Weak.to [2,6,14,15,16] [((2,0),2),((59,0),1),((3,0),3)] ?_) (by omega) (by omega);rw[hnx];simp[mkSt,go_sem,mst]
 ·have e4:IntKind.i64.wrap (o.length:Int)=(o.length:Int):=i64w (by omega) (by simp at iv1;omega);simp[g.n4,mkSt,go_sem,hk,e4];refine zae hk ?_;refine zaa (zgg r) rfl ?_;simp[go_sem];refine zab (zmh r S[k].w r.zero n hw.1 sz (by omega) (by omega) hw.2 cz) ?_;rw[pz];simp[go_sem,e4];refine zab (zpy z S[k]) ?_;simp[go_sem,e4];have hz:=iv2 z (by simp);have hb2:(k+1)*(n+1)<=2000:=by have:=yn4 (show k+1<=20 by omega) (show n+1<=91 by omega);omega
  have hb3:n<=(k+1)*(n+1):=by rw[yn7];omega
  have hle:lexI z.key S[k].key=0 ↔ z.key=S[k].key:=zv8 (by simp[GTArc.key]);refine⟨fun h0=>?_,fun h0=>?_⟩
  ·rw[ys0,zv5 (key:=GTArc.key) (z:=z) (y:=S[k]) (hle.1 h0)]at hnx;refine zab (zmh r z.w S[k].w _ hz.1 (hw.1.mono hb3) hb2 (by omega) hz.2 hw.2) ?_;simp[go_sem,e3,e4];refine hn' (k+1) _ (Weak.to [2,6,14,15,16] [((2,0),2),((1,0),1),((3,0),3)] ?_) (by omega) (by omega);rw[hnx];simp[mkSt,go_sem,upT]
  ·rw[ys0,zrk (key:=GTArc.key) (z:=z) (y:=S[k]) (fun h=>h0 (hle.2 h))]at hnx;simp[go_sem,e3];refine⟨by simp at iv1;omega,hn' (k+1) _ (Weak.to [2,6,14,15,16] [((2,0),2),((59,0),1),((3,0),3)] ?_) (by omega) (by omega)⟩;rw[hnx];simp[mkSt,go_sem,upT]
def inT(x:GTArc)(t:GTrans):Prop:=0<=x.f/\x.f<t.st/\0<=x.t/\x.t<t.st/\0<=x.i/\x.i<=t.i/\0<=x.o/\x.o<=t.o/\x.w.chk t.ring
structure GTrans.ok (t:GTrans):Prop where
 ring:t.ring.ok=true
 i1:1<=t.i/\t.i<=32
 o1:1<=t.o/\t.o<=32
 st1:0<=t.st
 st2:t.st<=64
 il:(t.ini.length:Int)=t.st
 fl:(t.fin.length:Int)=t.st
 al:t.arcs.length<=2048
 arcs:∀ x∈t.arcs,inT x t
 ini:∀ w∈t.ini,w.chk t.ring
 fin:∀ w∈t.fin,w.chk t.ring
noncomputable instance (x:GTArc) (a:GTrans):Decidable (inT x a):=Classical.propDecidable _
noncomputable instance (a:GTrans):Decidable a.ok:=Classical.propDecidable _
structure GTrans.sm (a:GTrans) (n:Nat):Prop where
 ini:∀ w∈a.ini,w.sm n
 fin:∀ w∈a.fin,w.sm n
 arcs:∀ x∈a.arcs,x.w.sm n
theorem GTrans.sm.mono{a:GTrans}{m n:Nat}(h:a.sm m)(k:m<=n):a.sm n:=⟨fun w hw=>(h.ini w hw).mono k,fun w hw=>(h.fin w hw).mono k,fun x hx=>(h.arcs x hx).mono k⟩
theorem zsx(t:GTrans)(h:t.sm 1048576)(li:t.ini.length<=1000000)(lf:t.fin.length<=1000000):Sp P F.fk [enc t] (.pure (.bool (decide t.ok))):=by
 refine Sp.vz c.fk fun _=>?_;simp[g.fk,go_sem];refine zaa (zex t.ring) rfl ?_;cases hr:t.ring.ok
 ·simp[go_sem];intro ok;rw[ok.ring]at hr;cases hr
 simp[go_sem];refine zaa (zm2 t.i) rfl ?_;by_cases h1:1<=t.i/\t.i<=32;rotate_left
 ·simp[go_sem,h1];intro ok;exact h1 ok.i1
 simp[go_sem,h1];refine zaa (zm2 t.o) rfl ?_;by_cases h2:1<=t.o/\t.o<=32;rotate_left
 ·simp[go_sem,h2];intro ok;exact h2 ok.o1
 simp[go_sem,h2];refine⟨fun h3 ok=>by have:=ok.st1;omega,fun h3=>⟨fun h4 ok=>by have:=ok.st2;omega,fun h4=>⟨fun h5 ok=>by have:=ok.al;omega,fun h5=>?_⟩⟩⟩
 refine zai (S:=fun k:Nat=>mkSt [(1,.ptr 1 0 0 0),(38,.p (.sl (ens t.arcs))),(39,.p (.int .i64 t.arcs.length)),(40,.p (.int .i64 k))] [(1,⟨8,[.p (enc t)]⟩)]) (I:=fun k=>k<=t.arcs.length/\∀ i,(hi:i<t.arcs.length)->i<k->inT t.arcs[i] t) (m:=fun k=>t.arcs.length - k) 0
  (Weak.to [1,38,39,40] [((1,0),1)] (by simp[go_sem])) ⟨by omega,fun i _ h0=>by omega⟩ ?_
 rintro k ⟨h6,h7⟩ R hn hr' hx;have e1:=i64s k (by omega);simp[g.pn,mkSt,go_sem];refine⟨fun hk=>?_,fun hk=>hx _ _ ?_⟩
 ·refine zae hk ?_;have hret:¬ inT t.arcs[k] t->¬ t.ok:=fun h ok=>h (ok.arcs _ (ym3 hk));have hsw:t.arcs[k].w.sm 1048576:=h.arcs _ (ym3 hk);have hnext:inT t.arcs[k] t->∀ i,(hi:i<t.arcs.length)->i<k+1->inT t.arcs[i] t:=fun hx i hi h0=>by
   by_cases hik:i<k
   ·exact h7 i hi hik
   ·have:i=k:=by omega
    subst this;exact hx
  generalize t.arcs[k]=x at *
  refine⟨fun h8=>hr' _ ?_,fun h8=>⟨fun h9=>hr' _ ?_,fun h9=>⟨fun h10=>hr' _ ?_,fun h10=>⟨fun h11=>hr' _ ?_,fun h11=>?_⟩⟩⟩⟩
  ·simp[go_sem];refine hret fun hT=>?_;obtain⟨a1,a2,a3,a4,a5,a6,a7,a8,a9⟩:=hT;revert h8;(repeat' split)<;>omega
  ·simp[go_sem];refine hret fun hT=>?_;obtain⟨a1,a2,a3,a4,a5,a6,a7,a8,a9⟩:=hT;revert h9;(repeat' split)<;>omega
  ·simp[go_sem];exact hret fun hT=>by have:=hT.2.2.2.2.2.1;omega
  ·simp[go_sem];exact hret fun hT=>by have:=hT.2.2.2.2.2.2.2.1;omega
  have h12:0<=x.f/\0<=x.t/\0<=x.i/\0<=x.o:=by revert h8;(repeat' split)<;>intro h8<;>omega
  have h13:x.f<t.st/\x.t<t.st:=by revert h9;(repeat' split)<;>intro h9<;>omega
  refine zab (zor t.ring x.w hsw) ?_;by_cases hc:x.w.chk t.ring;rotate_left
  ·simp[go_sem,hc];refine hr' _ ?_;simp[go_sem];exact hret fun hT=>hc hT.2.2.2.2.2.2.2.2
  simp[go_sem,hc,e1];exact hn (k+1) _ (Weak.to [1,38,39,40] [((1,0),1)] (by simp[mkSt,go_sem])) ⟨by omega,hnext ⟨h12.1,h13.1,h12.2.1,h13.2,h12.2.2.1,h10,h12.2.2.2,h11,hc⟩⟩ (by omega)
 ·simp[go_sem];have hall:∀ x∈t.arcs,inT x t:=fun x hx=>by obtain⟨i,hi,rfl⟩:=yo7.1 hx;exact h7 i hi (by omega)
  refine zab (zmw t.ring t.ini t.st h.ini (by omega)) ?_;by_cases h8:(t.ini.length:Int)=t.st/\∀ w∈t.ini,w.chk t.ring;rotate_left
  ·rw[decide_eq_false h8];simp[go_sem];intro ok;exact h8 ⟨ok.il,ok.ini⟩
  rw[decide_eq_true h8];simp[go_sem];refine zab (zmw t.ring t.fin t.st h.fin (by omega)) ?_;by_cases h9:(t.fin.length:Int)=t.st/\∀ w∈t.fin,w.chk t.ring;rotate_left
  ·have:¬ t.ok:=fun ok=>h9 ⟨ok.fl,ok.fin⟩;rw[decide_eq_false h9,decide_eq_false this];simp[go_sem]
  have ok:t.ok:=⟨hr,h1,h2,h3,h4,h8.1,h9.1,by omega,hall,h8.2,h9.2⟩;rw[decide_eq_true h9,decide_eq_true ok];simp[go_sem]
def z5b:GTrans:=⟨⟨0,[]⟩,0,0,0,[],[],[]⟩
noncomputable def GTrans.nf(a:GTrans):GTrans:=⟨a.ring,a.i,a.o,a.st,a.ini,a.fin,tidT a.ring a.arcs⟩
theorem zks(a:GTrans)(n:Nat)(hn:n<=90)(hn1:3<=n)(h:a.sm n)(hl:a.arcs.length<=19)(li:a.ini.length<=1000000)(lf:a.fin.length<=1000000) :
  Sp P F.fj [enc a] (.pure (.tup [enc (if a.ok then a.nf else z5b),.int .i64 (if a.ok then 0 else 4)])):=by
 refine Sp.vz c.fj fun _=>?_;simp[g.fj,go_sem];refine zab (zsx a (h.mono (by omega)) li lf) ?_;by_cases ok:a.ok;rotate_left
 ·rw[decide_eq_false ok,ym1 ok,ym1 ok];simp[go_sem,z5b]
 rw[decide_eq_true ok,ym0 ok,ym0 ok];have i1:=ok.il;have i2:=ok.fl;have i3:=ok.st2
 simp[go_sem];refine zab (z05 a.ring.parts (by have:=yde ok.ring;omega)) ?_;simp[go_sem];refine zab (zy9 a.ring a.ini n hn hn1 ok.ring (by omega) h.ini ok.ini) ?_;simp[go_sem];refine zab (zy9 a.ring a.fin n hn hn1 ok.ring (by omega) h.fin ok.fin) ?_;simp[go_sem];refine zab (z7e a.ring a.arcs n hn hn1 hl fun x hx=>⟨h.arcs x hx,(ok.arcs x hx).2.2.2.2.2.2.2.2⟩) ?_;simp[go_sem,GTrans.nf]
def swT(x:GTArc):GTArc:=⟨x.f,x.o,x.i,x.t,x.w⟩
def GTrans.inv(t:GTrans):GTrans:=⟨t.ring,t.o,t.i,t.st,t.ini,t.fin,t.arcs.map swT⟩
section
variable {α : Type} {key : α -> List Int} {wt : α -> GW} {r:GRing} {up : α -> α -> α} (hr:r.ok=true) (hk:∀ z y,key (up z y)=key z) (hw:∀ z y,wt (up z y)=r.plus (wt z) (wt y))
def atK(key : α -> List Int)(wt : α -> GW)(r:GRing)(l:List α)(k:List Int):GW:=atQ key wt r l fun x=>decide (x=k)
theorem zwu{L:List α}{k:List Int}(h:∀ x∈L,key x≠k):atK key wt r L k=r.zero:=by unfold atK atQ;rw[List.filter_eq_nil_iff.2 fun x hx=>by simpa using h x hx];rfl
theorem zwv{L:List α}(s:SSrt key L)(c:∀ x∈L,(wt x).chk r){x : α}(hx:x∈L):atK key wt r L (key x)=wt x:=by
 induction L with
 | nil=>cases hx
 | cons z t ih =>
  have s':=yo6.1 s;unfold atK;rw[zdk];simp only[decide_eq_true_eq];rcases ym7.1 hx with rfl|hx'
  ·rw[ym0 rfl,show atQ key wt r t (fun a=>decide (a=key x))=r.zero from zwu (wt:=wt) (r:=r) fun y hy h=>by have:=s'.1 y hy;rw[h]at this;exact yp1 _ this];exact zc7 (c x (by simp))
  ·have hne:¬ key z=key x:=fun h=>by have:=s'.1 x hx';rw[h]at this;exact yp1 _ this
   rw[ym1 hne];exact ih s'.2 (fun y hy=>c y (by simp[hy])) hx'
theorem z19:∀ {L L':List α},SSrt key L->SSrt key L'->(∀ x,x∈L ↔ x∈L')->L=L'
 | [],[],_,_,_=>rfl
 | [],y::t,_,_,h=>by have:=(h y).2 (by simp);cases this
 | x::t,[],_,_,h=>by have:=(h x).1 (by simp);cases this
 | x::t,y::t',s,s',h=>by
  have p:=yo6.1 s;have p':=yo6.1 s';have exy:x=y:=by
   rcases ym7.1 ((h x).1 (by simp))with e|hx
   ·exact e
   ·rcases ym7.1 ((h y).2 (by simp))with e|hy
    ·exact e.symm
    ·exact absurd (p'.1 x hx) (List.lt_asymm (p.1 y hy))
  subst exy
  congr 1
  refine z19 p.2 p'.2 fun z=>⟨fun hz=>?_,fun hz=>?_⟩
  ·rcases ym7.1 ((h z).1 (by simp[hz]))with e|h1
   ·have:=p.1 z hz;rw[e]at this;exact absurd this (yp1 _)
   ·exact h1
  ·rcases ym7.1 ((h z).2 (by simp[hz]))with e|h1
   ·have:=p'.1 z hz;rw[e]at this;exact absurd this (yp1 _)
   ·exact h1
theorem z9j(ext:∀ x y,key x=key y->wt x=wt y->x=y){L L':List α}(s:SSrt key L)(s':SSrt key L')(c:∀ x∈L,(wt x).chk r)(c':∀ x∈L',(wt x).chk r)(n:∀ x∈L,wt x≠r.zero)(n':∀ x∈L',wt x≠r.zero)(h:∀ k,atK key wt r L k=atK key wt r L' k):L=L':=by
 have one:∀ {L L':List α},SSrt key L->SSrt key L'->(∀ x∈L,(wt x).chk r)->(∀ x∈L',(wt x).chk r)->(∀ x∈L,wt x≠r.zero)->(∀ k,atK key wt r L k=atK key wt r L' k)->∀ x∈L,x∈L':=by
  intro L L' s s' c c' n h x hx;have h1:=h (key x);rw[zwv s c hx]at h1;by_cases he:∃ y∈L',key y=key x
  ·obtain⟨y,hy,e⟩:=he;have h2:=zwv s' c' hy;rw[e,<- h1]at h2;rw[ext x y e.symm h2];exact hy
  ·rw[zwu (wt:=wt) (r:=r) fun y hy e=>he ⟨y,hy,e⟩]at h1;exact absurd h1 (n x hx)
 exact z19 s s' fun x=>⟨one s s' c c' n h x,one s' s c' c n' (fun k=>(h k).symm) x⟩
include hr in
theorem z1d{l:List α}(h:∀ x∈l,(wt x).chk r)(p:List Int->Bool):atQ key wt r (l.filter fun x => !decide (wt x=r.zero)) p=atQ key wt r l p:=by
 induction l with
 | nil=>rfl
 | cons x l ih =>
  have ih':=ih fun y hy=>h y (by simp[hy]);by_cases hz:wt x=r.zero
  ·rw[List.filter_cons_of_neg (by simp[hz]),ih',zdk];split
   ·rw[hz,zmt hr (zwt hr (fun y hy=>h y (by simp[hy])) p)]
   ·rfl
  ·rw[List.filter_cons_of_pos (by simp[hz]),zdk,zdk,ih']
noncomputable def tid(key : α -> List Int)(wt : α -> GW)(r:GRing)(up : α -> α -> α)(l:List α):List α := (mrg key up id (srt key l)).filter fun x => !decide (wt x=r.zero)
include hr hk hw in
theorem zl9{l:List α}(h:∀ x∈l,(wt x).chk r):SSrt key (tid key wt r up l)/\(∀ x∈tid key wt r up l,(wt x).chk r/\wt x≠r.zero)/\∀ p,atQ key wt r (tid key wt r up l) p=atQ key wt r l p:=by
 have hm:=(z4g (key:=key) (up:=up) (nw:=id) hk (fun _=>rfl) l);have hs:=(zib (key:=key) (up:=up) (nw:=id) hk (fun _=>rfl) _ (srt key l) rfl hm.2).1;have hn:=fun p=>z6q (key:=key) (up:=up) hr hk hw h p l.length (ym8 _);rw[yn1]at hn;have e:mrg key up id (srt key l)=nfm key up id l:=hm.1;unfold tid;refine⟨List.Pairwise.filter _ hs,fun x hx=>?_,fun p=>?_⟩
 ·have:=List.mem_filter.1 hx;rw[e]at this;exact⟨(hn fun _=>true).1 x this.1,by simpa using this.2⟩
 ·rw[e,z1d hr (hn p).1,(hn p).2]
include hr hk hw in
theorem ybw(ext:∀ x y,key x=key y->wt x=wt y->x=y){l l':List α}(h:∀ x∈l,(wt x).chk r)(h':∀ x∈l',(wt x).chk r)(he:∀ p,atQ key wt r l p=atQ key wt r l' p):tid key wt r up l=tid key wt r up l':=by obtain⟨a1,a2,a3⟩:=zl9 (up:=up) hr hk hw h;obtain⟨b1,b2,b3⟩:=zl9 (up:=up) hr hk hw h';exact z9j ext a1 b1 (fun x hx=>(a2 x hx).1) (fun x hx=>(b2 x hx).1) (fun x hx=>(a2 x hx).2) (fun x hx=>(b2 x hx).2) fun k=>by unfold atK;rw[a3,b3,he]
end
def cmp5(v w:List Int):Int:=if v.length≠w.length then(if v.length<w.length then -1 else 1)else lexI v w
theorem z4u{v w:List Int}{k:Nat}(h:k<v.length)(h':k<w.length):lexI (v.drop k) (w.drop k)=if v[k]<w[k]then -1 else if w[k]<v[k]then 1 else lexI (v.drop (k+1)) (w.drop (k+1)):=by rw[yos h,yos h'];rfl
theorem zwp(v w:List Int)(hl:v.length<=1000000000):Sp P F.g8 [.sl (ens v),.sl (ens w)] (.pure (.int .i64 (cmp5 v w))):=by
 refine Sp.vz c.g8 fun _=>?_;by_cases hlen:v.length=w.length;rotate_left
 ·have hne:¬ (v.length:Int)=w.length:=by omega
  simp[g.g8,go_sem,hlen,cmp5];by_cases h:v.length<w.length
  ·simp[h];intro h';omega
  ·simp[h];intro h';omega
 have e0:cmp5 v w=lexI v w:=by simp[cmp5,hlen]
 rw[e0];simp[g.g8,go_sem,hlen]
 refine zai (S:=fun k:Nat=>mkSt [(0,.p (.sl (ens v))),(1,.p (.sl (ens w))),(5,.p (.int .i64 k))] []) (I:=fun k=>k<=v.length/\lexI v w=lexI (v.drop k) (w.drop k)) (m:=fun k=>v.length - k) 0
  (Weak.to [0,1,5] [] (by simp[go_sem])) ⟨by omega,by simp⟩ ?_
 rintro k ⟨h6,h7⟩ R hn' hr hx;have e1:=i64s k (by omega);by_cases hk:k<v.length
 ·have hk':k<w.length:=by omega
  have hd:=z4u hk hk';simp[g.oq,mkSt,go_sem,hk,hk'];refine zae hk ?_;refine zae hk' ?_;refine⟨fun h8=>hr _ ?_,fun h8=>?_⟩
  ·rw[ym0 h8]at hd;simp[go_sem,h7,hd]
  refine zae hk ?_;refine zae hk' ?_;refine⟨fun h9=>hr _ ?_,fun h9=>?_⟩
  ·rw[ym1 (by omega),ym0 h9]at hd;simp[go_sem,h7,hd]
  ·rw[ym1 (by omega),ym1 (by omega)]at hd;rw[e1];exact hn' (k+1) _ (Weak.to [0,1,5] [] (by simp[mkSt,go_sem])) ⟨by omega,by rw[h7,hd]⟩ (by omega)
 ·simp[g.oq,mkSt,go_sem,hk];refine hx _ _ ?_;have:lexI v w=0:=by rw[h7,yq9 (by omega)];rfl
  simp[go_sem,this]
theorem zly(m:Int):Sp P F.jt [.int .i64 m] (.pure (.bool (decide (1<=m/\m<=32)))):=by refine Sp.vz c.jt fun _=>?_;simp[g.jt,go_sem];exact⟨fun h _=>h,fun h h'=>by omega⟩
theorem zua(v lo hi:Int):Sp P F.bp [.int .i64 v,.int .i64 lo,.int .i64 hi] (.pure (.bool (decide (lo<=v/\v<=hi)))):=by refine Sp.vz c.bp fun _=>?_;simp[g.bp,go_sem];exact⟨fun h _=>h,fun h h'=>by omega⟩
theorem zmx(r:GRing)(l:List GW)(m:Int)(hl:∀ w∈l,w.sm 1048576)(hlen:l.length<=1000000000):Sp P F.fy [enc r,.sl (ens l),.int .i64 m] (.pure (.bool (decide ((l.length:Int)=m/\∀ w∈l,w.chk r)))):=by
 refine Sp.vz c.fy fun _=>?_;by_cases hm:(l.length:Int)=m;rotate_left
 ·simp[g.fy,go_sem,hm]
 subst hm;simp[g.fy,go_sem]
 refine zai (S:=fun k:Nat=>mkSt [(1,.p (.sl (ens l))),(2,.p (.int .i64 l.length)),(3,.ptr 1 0 0 0),(7,.p (.int .i64 k))] [(1,⟨2,[.p (enc r)]⟩)]) (I:=fun k=>k<=l.length/\∀ i,(hi:i<l.length)->i<k->l[i].chk r) (m:=fun k=>l.length - k) 0
  (Weak.to [1,2,3,7] [((3,0),1)] (by simp[go_sem])) ⟨by omega,fun i _ h=>by omega⟩ ?_
 rintro k ⟨h6,h7⟩ R hn' hr hx;have e1:=i64s k (by omega);simp[g.qj,mkSt,go_sem];refine⟨fun hk=>?_,fun hk=>hx _ _ ?_⟩
 ·refine zae hk ?_
  try simp[go_sem]
  have hmem:=ym3 hk;refine zab (zkd r l[k] (hl _ hmem)) ?_;by_cases hc:l[k].chk r
  ·simp[go_sem,hc,e1];refine hn' (k+1) _ (Weak.to [1,2,3,7] [((1,0),1)] (by simp[mkSt,go_sem])) ⟨by omega,fun i hi h0=>?_⟩ (by omega);by_cases hik:i<k
   ·exact h7 i hi hik
   ·have:i=k:=by omega
    subst this;exact hc
  ·simp[go_sem,hc];refine hr _ ?_;simp[go_sem];exact⟨_,hmem,hc⟩
 ·have:∀ w∈l,w.chk r:=fun x hx=>by obtain⟨i,hi,rfl⟩:=yo7.1 hx;exact h7 i hi (by omega)
  simp[go_sem];exact this
end Go.Ab
namespace Go.Ab
open Enc (enc)
attribute [local go_sem] zal Opd.slots
section
variable {α : Type} {key : α -> List Int} {up : α -> α -> α} {nw : α -> α}
theorem zt9{B:List α}{x : α}:∀ {A:List α},(∀ a∈A,key a<key x)->insF key up nw (A++B) x=A++insF key up nw B x
 | [],_=>rfl
 | a::A,h=>by rw[yoy,yoy,<- zt9 (A:=A) fun b hb=>h b (by simp[hb])];simp[insF,h a (by simp)]
theorem zwa{O:List α}{x : α}{k:Nat}(h:∀ i,(hi:i<O.length)->i<k->key O[i]<key x):insF key up nw O x=O.take k++insF key up nw (O.drop k) x:=by
 have e:=zt9 (up:=up) (nw:=nw) (B:=O.drop k) (x:=x) (A:=O.take k) fun a ha=>by obtain⟨i,hi,rfl⟩:=yo7.1 ha;have hi':=hi;rw[yns]at hi';rw[List.getElem_take];exact h i (by omega) (by omega)
 rwa[yox]at e
theorem z89{O:List α}{x : α}(h:∀ i,(hi:i<O.length)->key O[i]<key x):insF key up nw O x=O++[nw x]:=by rw[zwa (k:=O.length) fun i hi _=>h i hi];simp[insF]
theorem ydv{O:List α}{x : α}{k:Nat}(hk:k<O.length)(h:∀ i,(hi:i<O.length)->i<k->key O[i]<key x)(he:key O[k]=key x):insF key up nw O x=O.set k (up O[k] x):=by
 rw[zwa h,yos hk];have:¬ key O[k]<key x:=by rw[he];exact yp1 _
 simp only[insF,ym1 this,ym0 he];rw[List.set_eq_take_append_cons_drop,ym0 hk]
theorem z88{O:List α}{x : α}{k:Nat}(hk:k<O.length)(h:∀ i,(hi:i<O.length)->i<k->key O[i]<key x)(h1:¬ key O[k]<key x)(h2:key O[k]≠key x):insF key up nw O x=O.take k++nw x::O.drop k:=by rw[zwa h,yos hk];simp[insF,h1,h2]
end
noncomputable instance:DecidableEq GArc:=fun _ _=>Classical.propDecidable _
noncomputable instance:DecidableEq GTArc:=fun _ _=>Classical.propDecidable _
noncomputable instance:DecidableEq GAuto:=fun _ _=>Classical.propDecidable _
noncomputable instance:DecidableEq GTrans:=fun _ _=>Classical.propDecidable _
theorem z7g{x y:GTArc}:x=y ↔ x.key=y.key/\x.w=y.w:=by cases x;cases y;simp[GTArc.key,and_assoc]
theorem zpz(x y:GTArc):Sp P F.f9 [enc x,enc y] (.pure (.int .i64 (lexI x.key y.key))):=by refine Sp.vz c.f9 fun _=>?_;simp[g.f9,go_sem];have k:=zwp x.key y.key (by simp[GTArc.key]);rw[show cmp5 x.key y.key=lexI x.key y.key from rfl]at k;refine zaa k (by simp[go_sem,GTArc.key]) ?_;simp[go_sem]
theorem zzo(a:GTrans)(h:a.sm 1048576)(li:a.ini.length<=1000000)(lf:a.fin.length<=1000000):Sp P F.jj [enc a] (.pure (.bool (decide a.ok))):=by
 refine Sp.vz c.jj fun _=>?_;simp[g.jj,go_sem];refine zaa (zax a.ring) rfl ?_;cases hr:a.ring.ok
 ·simp[go_sem];exact fun ok=>by rw[ok.ring]at hr;cases hr
 simp[go_sem];refine zaa (zly a.i) rfl ?_;by_cases h1:1<=a.i/\a.i<=32;rotate_left
 ·rw[decide_eq_false h1];simp[go_sem];exact fun ok=>h1 ok.i1
 rw[decide_eq_true h1];simp[go_sem];refine zaa (zly a.o) rfl ?_;by_cases h0:1<=a.o/\a.o<=32;rotate_left
 ·rw[decide_eq_false h0];simp[go_sem];exact fun ok=>h0 ok.o1
 rw[decide_eq_true h0];simp[go_sem];refine zaa (zua a.st 0 64) rfl ?_;by_cases h2:0<=a.st/\a.st<=64;rotate_left
 ·rw[decide_eq_false h2];simp[go_sem];exact fun ok=>h2 ⟨ok.st1,ok.st2⟩
 rw[decide_eq_true h2];simp[go_sem];refine zab (zmx a.ring a.ini a.st h.ini (by omega)) ?_;by_cases h3:(a.ini.length:Int)=a.st/\∀ w∈a.ini,w.chk a.ring;rotate_left
 ·rw[decide_eq_false h3];simp[go_sem];exact fun ok=>h3 ⟨ok.il,ok.ini⟩
 rw[decide_eq_true h3];simp[go_sem];refine zab (zmx a.ring a.fin a.st h.fin (by omega)) ?_;by_cases h4:(a.fin.length:Int)=a.st/\∀ w∈a.fin,w.chk a.ring;rotate_left
 ·rw[decide_eq_false h4];simp[go_sem];exact fun ok=>h4 ⟨ok.fl,ok.fin⟩
 rw[decide_eq_true h4];simp[go_sem];refine⟨fun h5=>fun ok=>by have:=ok.al;omega,fun h5=>?_⟩
 refine zai (S:=fun k:Nat=>mkSt [(1,.ptr 1 0 0 0),(3,.p (.int .i64 k))] [(1,⟨8,[.p (enc a)]⟩)]) (I:=fun k=>k<=a.arcs.length/\∀ i,(hi:i<a.arcs.length)->i<k->inT a.arcs[i] a) (m:=fun k=>a.arcs.length - k) 0
  (Weak.to [1,3] [((1,0),1)] (by simp[go_sem])) ⟨by omega,fun i _ h0=>by omega⟩ ?_
 rintro k ⟨h6,h7⟩ R hn hr' hx;have e1:=i64s k (by omega);have e2:IntKind.i64.wrap (a.st - 1)=a.st - 1:=by
  by_cases hs:1<=a.st
  ·obtain⟨m,hm⟩:=Int.eq_ofNat_of_zero_le (show 0<=a.st - 1 by omega);rw[hm];exact i64w (by omega) (by omega)
  ·have:a.st=0:=by omega
   rw[this];rfl
 simp[g.po,mkSt,go_sem,e2];refine⟨fun hk=>?_,fun hk=>hx _ _ ?_⟩
 ·refine zae hk ?_;have hret:¬ inT a.arcs[k] a->¬ a.ok:=fun h ok=>h (ok.arcs _ (ym3 hk));have hsw:a.arcs[k].w.sm 1048576:=h.arcs _ (ym3 hk);have hnext:inT a.arcs[k] a->∀ i,(hi:i<a.arcs.length)->i<k+1->inT a.arcs[i] a:=fun hx i hi h0=>by
   by_cases hik:i<k
   ·exact h7 i hi hik
   ·have:i=k:=by omega
    subst this;exact hx
  generalize a.arcs[k]=x at *
  refine zaa (zua x.f 0 (a.st - 1)) rfl ?_;by_cases h8:0<=x.f/\x.f<=a.st - 1;rotate_left
  ·rw[decide_eq_false h8];simp[go_sem];refine hr' _ ?_;simp[go_sem];exact(hret fun hT=>h8 ⟨hT.1,by have:=hT.2.1;omega⟩)
  rw[decide_eq_true h8];simp[go_sem,e2];refine zaa (zua x.t 0 (a.st - 1)) rfl ?_;by_cases h9:0<=x.t/\x.t<=a.st - 1;rotate_left
  ·rw[decide_eq_false h9];simp[go_sem];refine hr' _ ?_;simp[go_sem];exact(hret fun hT=>h9 ⟨hT.2.2.1,by have:=hT.2.2.2.1;omega⟩)
  rw[decide_eq_true h9];simp[go_sem];refine zaa (zua x.i 0 a.i) rfl ?_;by_cases h10:0<=x.i/\x.i<=a.i;rotate_left
  ·rw[decide_eq_false h10];simp[go_sem];refine hr' _ ?_;simp[go_sem];exact(hret fun hT=>h10 ⟨hT.2.2.2.2.1,hT.2.2.2.2.2.1⟩)
  rw[decide_eq_true h10];simp[go_sem];refine zaa (zua x.o 0 a.o) rfl ?_;by_cases h11:0<=x.o/\x.o<=a.o;rotate_left
  ·rw[decide_eq_false h11];simp[go_sem];refine hr' _ ?_;simp[go_sem];exact(hret fun hT=>h11 ⟨hT.2.2.2.2.2.2.1,hT.2.2.2.2.2.2.2.1⟩)
  rw[decide_eq_true h11];simp[go_sem];refine zab (zkd a.ring x.w hsw) ?_;by_cases hc:x.w.chk a.ring;rotate_left
  ·simp[go_sem,hc];refine hr' _ ?_;simp[go_sem];exact(hret fun hT=>hc hT.2.2.2.2.2.2.2.2)
  simp[go_sem,hc,e1];exact hn (k+1) _ (Weak.to [1,3] [((1,0),1)] (by simp[mkSt,go_sem])) ⟨by omega,hnext ⟨h8.1,by omega,h9.1,by omega,h10.1,h10.2,h11.1,h11.2,hc⟩⟩ (by omega)
 ·have hall:∀ x∈a.arcs,inT x a:=fun x hx=>by obtain⟨i,hi,rfl⟩:=yo7.1 hx;exact h7 i hi (by omega)
  have ok:a.ok:=⟨hr,h1,h0,h2.1,h2.2,h3.1,h4.1,by omega,hall,h3.2,h4.2⟩;simp[go_sem,ok]
noncomputable def z9k(r:GRing)(l:List GTArc):List GTArc:=(nfm GTArc.key (upT r) id l).filter fun x => !decide (x.w=r.zero)
theorem z5e{r:GRing}{n:Nat}(hn1:1<=n){l:List GTArc}(h:∀ x∈l,x.w.sm n/\x.w.chk r)(k:Nat)(hk:k<=l.length) :
  (nfm GTArc.key (upT r) id (l.take k)).length<=k/\∀ x∈nfm GTArc.key (upT r) id (l.take k),x.w.sm ((k+1)*(n+1))/\x.w.chk r:=by
 refine z4d (up:=upT r) (nw:=id) (Q:=fun k x=>x.w.sm ((k+1)*(n+1))/\x.w.chk r) (fun k x hx=>⟨hx.1.mono (ymu _ (by omega)),hx.2⟩) (fun x hx=>⟨(h x hx).1.mono (by omega),(h x hx).2⟩) (fun k z x hx hz=>⟨?_,(zbu hz.2 (h x hx).2:(r.plus z.w x.w).chk r)⟩) (fun k x hx=>⟨hx.1.mono (ymu _ (by omega)),hx.2⟩) k hk;have:=z3e hz.1 (h x hx).1 hz.2 (h x hx).2 (ymm hn1 (by rw[yn7];omega)) hn1;have e:(k+1)*(n+1)+n+1=(k+1+1)*(n+1):=by rw[yn7 (k+1) 1];omega
 rw[<- e];exact this
theorem zqh(r:GRing)(l:List GTArc):z9k r l=tidT r l:=by unfold z9k tidT;rw[(z4g (up:=upT r) (nw:=id) (fun _ _=>rfl) (fun _=>rfl) l).1]
theorem zuz(r:GRing)(l:List GTArc)(n:Nat)(hn:n<=90)(hn1:3<=n)(hl:l.length<=19)(h:∀ x∈l,x.w.sm n/\x.w.chk r) :
  Sp P F.dj [enc r,.sl (ens l)] (.pure (.sl (ens (z9k r l)))):=by
 have inv:=z5e (r:=r) (n:=n) (by omega) h;refine Sp.vz c.dj fun _=>?_;simp[g.dj,go_sem]
 refine zai (S:=fun k:Nat=>mkSt [(1,.p (.sl (ens l))),(2,.ptr 2 0 0 0),(5,.own 1 0 0 (nfm GTArc.key (upT r) id (l.take k)).length),(6,.p (.int .i64 k))] [(2,⟨2,[.p (enc r)]⟩),(1,⟨12,avs (nfm GTArc.key (upT r) id (l.take k))⟩)]) (I:=fun k=>k<=l.length) (m:=fun k=>l.length - k) 0
  (Weak.nl 5 77 12 rfl (Weak.to [1,2,5,6] [((2,0),2),((77,0),1)] (by simp[go_sem,nfm]))) (by omega) ?_
 rintro k h1 R hn' hr hx;have e3:=i64s k (by omega);obtain⟨iv1,iv2⟩:=inv k h1;generalize hO:nfm GTArc.key (upT r) id (l.take k)=O at *
 by_cases hk:k<l.length
 ·have hw:=h _ (ym3 hk);have hnx:=zgq (key:=GTArc.key) (up:=upT r) (nw:=id) hk;rw[hO]at hnx;simp[g.oi,mkSt,go_sem,hk];refine zae hk ?_
  try simp[go_sem]
  generalize l[k]=x at *
  refine zab (zaz r x.w (hw.1.mono (by omega))) ?_;rw[z1v hw.2];simp[go_sem]
  refine zai (S:=fun i:Nat=>mkSt [(1,.p (.sl (ens l))),(2,.ptr 2 0 0 0),(5,.own 1 0 0 O.length),(6,.p (.int .i64 k)),(7,.ptr 3 0 0 0),(8,.p (.int .i64 i))] [(2,⟨2,[.p (enc r)]⟩),(1,⟨12,avs O⟩),(3,⟨12,[.p (enc x)]⟩)]) (I:=fun i=>i<=O.length/\∀ j,(hj:j<O.length)->j<i->O[j].key<x.key) (m:=fun i=>O.length - i) 0
   (Weak.to [1,2,5,6,7,8] [((2,0),2),((1,0),1),((7,0),3)] (by simp[go_sem])) ⟨by omega,fun j _ hj=>by omega⟩ ?_
  rintro i ⟨j1,j2⟩ R2 hn2 hr2 hx2;have e4:=i64s i (by omega);by_cases hi:i<O.length
  ·simp[g.oh,mkSt,go_sem,hi];refine zae hi ?_;refine zab (zpz O[i] x) ?_;have hlt:lexI O[i].key x.key<0 ↔ O[i].key<x.key:=zv7 (by simp[GTArc.key]);have hle:lexI O[i].key x.key=0 ↔ O[i].key=x.key:=zv8 (by simp[GTArc.key]);simp[go_sem];refine⟨fun h8=>?_,fun h8=>hx2 _ _ ?_⟩
   ·rw[e4];refine hn2 (i+1) _ (Weak.to [1,2,5,6,7,8] [((2,0),2),((1,0),1),((3,0),3)] (by simp[mkSt,go_sem])) ⟨by omega,fun j hj h0=>?_⟩ (by omega);by_cases hji:j<i
    ·exact j2 j hj hji
    ·have:j=i:=by omega
     subst this;exact hlt.1 h8
   ·simp[go_sem,hi];refine zae hi ?_;refine zab (zpz O[i] x) ?_;simp[go_sem];refine⟨fun h0=>?_,fun h0=>?_⟩
    ·rw[ydv hi j2 (hle.1 h0)]at hnx;have hz:=iv2 _ (ym3 hi);have hb2:(k+1)*(n+1)<=2000:=by have:=yn4 (show k+1<=20 by omega) (show n+1<=91 by omega);omega
     have hb3:n<=(k+1)*(n+1):=by rw[yn7];omega
     refine⟨hi,zae hi ?_⟩;refine zab (zx5 r O[i].w x.w _ hz.1 (hw.1.mono hb3) hb2 (by omega) hz.2 hw.2) ?_;simp[go_sem,e3,hi];refine zae hi ?_;refine hn' (k+1) _ (Weak.to [1,2,5,6] [((2,0),2),((1,0),1)] ?_) (by omega) (by omega);rw[hnx];simp[mkSt,go_sem,upT]
    ·rw[z88 hi j2 (fun h=>by have:=hlt.2 h;omega) (fun h=>h0 (hle.2 h))]at hnx;have hO2:O.length<=19:=by omega
     have hm:min i O.length=i:=by omega
     rw[hm];refine⟨by omega,⟨by omega,by omega⟩,by omega,by omega,⟨by omega,by omega⟩,?_⟩;rw[e3];have hlen:i+1+(O.length - i)=O.length+1:=by omega
     refine hn' (k+1) _ (Weak.to [1,2,5,6] [((2,0),2),((77,0),1)] ?_) (by omega) (by omega);rw[hnx];simp[mkSt,go_sem,hlen];exact⟨by omega,by rw[ymq (by simp)]⟩
  ·have:i=O.length:=by omega
   subst this;rw[z89 fun j hj=>j2 j hj hj]at hnx;simp[g.oh,mkSt,go_sem];refine hx2 _ _ ?_;simp[go_sem];rw[e3];refine⟨by omega,by omega,hn' (k+1) _ (Weak.to [1,2,5,6] [((2,0),2),((77,0),1)] ?_) (by omega) (by omega)⟩;rw[hnx];simp[mkSt,go_sem]
 ·have:k=l.length:=by omega
  subst this;rw[ymq (ym8 _)]at hO;have hf:z9k r l=O.filter fun x => !decide (x.w=r.zero):=by rw[<- hO];rfl
  have hb2:(l.length+1)*(n+1)<=1048576:=by have:=yn4 (show l.length+1<=20 by omega) (show n+1<=91 by omega);omega
  simp[g.oi,mkSt,go_sem];refine hx _ _ ?_;simp[go_sem];rw[hf];clear hx hr hn'
  refine zai (S:=fun j:Nat=>mkSt [(2,.ptr 2 0 0 0),(5,.own 1 0 0 O.length),(9,.own 3 0 0 ((O.take j).filter fun x => !decide (x.w=r.zero)).length),(10,.p (.int .i64 j))] [(2,⟨2,[.p (enc r)]⟩),(1,⟨12,avs O⟩),(3,⟨12,avs ((O.take j).filter fun x => !decide (x.w=r.zero))⟩)]) (I:=fun j=>j<=O.length) (m:=fun j=>O.length - j) 0
   (Weak.nl 9 78 12 rfl (Weak.to [2,5,9,10] [((2,0),2),((1,0),1),((78,0),3)] (by simp[go_sem]))) (by omega) ?_
  rintro j j1 R hn' hr hx;have e4:=i64s j (by omega);by_cases hj:j<O.length
  ·have hlj:((O.take j).filter fun x => !decide (x.w=r.zero)).length<=j:=ymm (yoh _ _) (by rw[yns];omega);have hts:(O.take (j+1)).filter (fun x => !decide (x.w=r.zero))=(O.take j).filter (fun x => !decide (x.w=r.zero))++if O[j].w=r.zero then[]else[O[j]]:=by rw[ymr hj,yol];by_cases hz:O[j].w=r.zero<;>simp[hz]
   generalize hT:(O.take j).filter (fun x => !decide (x.w=r.zero))=T at *
   have hz:=iv2 _ (ym3 hj);simp[g.oj,mkSt,go_sem,hj];refine zae hj ?_;refine zab (z0o r O[j].w (hz.1.mono hb2)) ?_;by_cases h0:O[j].w=r.zero
   ·rw[decide_eq_true h0];simp[go_sem,e4];rw[ym0 h0]at hts;refine hn' (j+1) _ (Weak.to [2,5,9,10] [((2,0),2),((1,0),1),((3,0),3)] ?_) (by omega) (by omega);rw[hts];simp[mkSt,go_sem]
   ·rw[decide_eq_false h0];simp[go_sem,hj];rw[ym1 h0]at hts;refine zae hj ?_;rw[e4];refine⟨by omega,hn' (j+1) _ (Weak.to [2,5,9,10] [((2,0),2),((1,0),1),((98,0),3)] ?_) (by omega) (by omega)⟩;rw[hts];simp[mkSt,go_sem]
  ·have:j=O.length:=by omega
   subst this;simp[g.oj,mkSt,go_sem];refine hx _ _ ?_;simp[go_sem]
theorem z5f(a:GTrans)(n:Nat)(hn:n<=90)(hn1:3<=n)(h:a.sm n)(hl:a.arcs.length<=19)(hp:a.ring.parts.length<=1000000)(hs:a.st<=1000)(li:(a.ini.length:Int)=a.st)(lf:(a.fin.length:Int)=a.st)
  (ci:∀ w∈a.ini,w.chk a.ring) (cf:∀ w∈a.fin,w.chk a.ring) (ca:∀ x∈a.arcs,x.w.chk a.ring) :
  Sp P F.jh [enc a] (.pure (enc a.nf)):=by
 have k3:=zuz a.ring a.arcs n hn hn1 hl fun x hx=>⟨h.arcs x hx,ca x hx⟩;rw[zqh]at k3;have llf:a.fin.length=a.ini.length:=by omega
 refine Sp.vz c.jh fun _=>?_;simp[g.jh,go_sem];refine⟨by omega,?_⟩;refine zab k3 ?_;simp[go_sem]
 refine zai (S:=fun k:Nat=>mkSt [(1,.ptr 1 0 0 0),(2,.ptr 2 0 0 0),(3,.ptr 3 0 0 0),(4,.p (.int .i64 k))]
   [(1,⟨8,[.p (enc a)]⟩),(2,⟨8,[.agg [.p (.int .i64 0),.nil,.p (.int .i64 0),.p (.int .i64 0),.p (.int .i64 0),.nil,.nil,.nil]]⟩),
    (3,⟨8,[.agg [.p (.int .i64 a.ring.kind),.own 6 0 0 a.ring.parts.length,.p (.int .i64 a.i),.p (.int .i64 a.o),.p (.int .i64 a.st),.own 4 0 0 k,.own 5 0 0 k,.p (.sl (ens (tidT a.ring a.arcs)))]]⟩),(4,⟨8,avs (a.ini.take k)⟩),(5,⟨8,avs (a.fin.take k)⟩),(6,⟨1,avs a.ring.parts⟩)])
  (I:=fun k=>k<=a.ini.length) (m:=fun k=>a.ini.length - k) 0
  ((Weak.nilCell (s0:=3) (g0:=0) (i:=5) (s:=77) (sz:=8) rfl).trans ((Weak.nilCell (s0:=3) (g0:=0) (i:=6) (s:=78) (sz:=8) rfl).trans (Weak.to [1,2,3,4] [((1,0),1),((2,0),2),((3,0),3),((77,0),4),((78,0),5),((11,0),6)] (by simp[go_sem])))) (by omega) ?_
 rintro k h6 R hn' hr hx;have e1:=i64s k (by omega);by_cases hk:k<a.ini.length
 ·have hk2:k<a.fin.length:=by omega
  have hk3:(k:Int)<a.st:=by omega
  simp[g.oe,mkSt,go_sem,hk,hk2,hk3];refine zae hk ?_
  try simp[go_sem]
  have m1:=ym3 hk;have m2:=ym3 hk2;refine zab (zaz a.ring a.ini[k] ((h.ini _ m1).mono (by omega))) ?_;rw[z1v (ci _ m1)];simp[go_sem,hk,hk2];refine⟨⟨by omega,by omega⟩,zae hk2 ?_⟩;refine zab (zaz a.ring a.fin[k] ((h.fin _ m2).mono (by omega))) ?_;rw[z1v (cf _ m2)];have t1:avs (a.ini.take (k+1))=avs (a.ini.take k)++[.p (enc a.ini[k])]:=by rw[ymr hk,zcs];rfl
  have t2:avs (a.fin.take (k+1))=avs (a.fin.take k)++[.p (enc a.fin[k])]:=by rw[ymr hk2,zcs];rfl
  simp[go_sem,e1];refine⟨⟨by omega,by omega⟩,hn' (k+1) _ (Weak.to [1,2,3,4] [((1,0),1),((2,0),2),((3,0),3),((42,0),4),((54,0),5),((6,0),6)] ?_) (by omega) (by omega)⟩;simp[mkSt,go_sem,t1,t2]
 ·have:k=a.ini.length:=by omega
  subst this;have hk3:¬ (a.ini.length:Int)<a.st:=by omega
  simp[g.oe,mkSt,go_sem,hk3];refine hx _ _ ?_;simp[go_sem,GTrans.nf,llf];rw[ymq (by rw[yns];exact Nat.min_le_left _ _),ymq (by omega)]
end Go.Ab
namespace Go.Ab
section
variable {α : Type} {key : α -> List Int} {wt : α -> GW} {r:GRing} {up : α -> α -> α}
theorem ybv(hr:r.ok=true)(hk:∀ z y,key (up z y)=key z)(hw:∀ z y,wt (up z y)=r.plus (wt z) (wt y)){l:List α}(h:∀ x∈l,(wt x).chk r){x : α}(hx:x∈tid key wt r up l):∃ y∈l,key y=key x:=by
 obtain⟨s,c,e⟩:=zl9 (up:=up) hr hk hw h;by_cases hn:∃ y∈l,key y=key x
 ·exact hn
 ·have h1:=zwv s (fun y hy=>(c y hy).1) hx;unfold atK at h1;rw[e]at h1;have h2:atK key wt r l (key x)=r.zero:=zwu fun y hy e=>hn ⟨y,hy,e⟩;exact absurd (h1.symm.trans h2) (c x hx).2
theorem z10(hk:∀ z y,key (up z y)=key z)(l:List α):(tid key wt r up l).length<=l.length:=by unfold tid;refine ymm (yoh _ _) ?_;have h:=(zkv (key:=key) (up:=up) (nw:=id) (Q:=fun _ _=>True) (l:=srt key l) (fun _ _ _=>trivial) (fun _ _=>trivial) (fun _ _ _ _ _=>trivial) (fun _ _ _=>trivial) _ (ym8 _)).1;rw[yn1,(zb4 l).2.1]at h;exact h
end
theorem zs9{r:GRing}(hr:r.ok=true){l:List GTArc}(h:∀ x∈l,x.w.chk r):SSrt GTArc.key (tid GTArc.key GTArc.w r (upT r) l)/\(∀ x∈tid GTArc.key GTArc.w r (upT r) l,x.w.chk r/\x.w≠r.zero)/\∀ p,atQ GTArc.key GTArc.w r (tid GTArc.key GTArc.w r (upT r) l) p=atQ GTArc.key GTArc.w r l p:=zl9 (key:=GTArc.key) (wt:=GTArc.w) (up:=upT r) hr (fun _ _=>rfl) (fun _ _=>rfl) h
theorem zp3{a:GTrans}(ok:a.ok):a.nf.ok:=by have hc:∀ x∈a.arcs,x.w.chk a.ring:=fun x hx=>(ok.arcs x hx).2.2.2.2.2.2.2.2;refine⟨ok.ring,ok.i1,ok.o1,ok.st1,ok.st2,ok.il,ok.fl,ymm (z10 (key:=GTArc.key) (wt:=GTArc.w) (r:=a.ring) (up:=upT a.ring) (fun _ _=>rfl) a.arcs) ok.al,fun x hx=>?_,ok.ini,ok.fin⟩;have hx':x∈tid GTArc.key GTArc.w a.ring (upT a.ring) a.arcs:=hx;obtain⟨y,hy,e⟩:=ybv (key:=GTArc.key) (wt:=GTArc.w) (up:=upT a.ring) ok.ring (fun _ _=>rfl) (fun _ _=>rfl) hc hx';obtain⟨a1,a2,a3,a4,a5,a6,a7,a8,_⟩:=ok.arcs y hy;simp only[GTArc.key,List.cons.injEq,and_true]at e;obtain⟨e1,e2,e3,e4⟩:=e;exact⟨e1 ▸ a1,e1 ▸ a2,e4 ▸ a3,e4 ▸ a4,e2 ▸ a5,e2 ▸ a6,e3 ▸ a7,e3 ▸ a8,((zs9 ok.ring hc).2.1 x hx').1⟩
end Go.Ab
