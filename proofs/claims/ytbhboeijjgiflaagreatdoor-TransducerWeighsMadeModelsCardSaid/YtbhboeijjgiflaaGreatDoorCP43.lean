/-
Proofs for the law TransducerWeighsMadeModels, part 43. Conditions: none.
-/
import Derived.Test.YtbhboeijjgiflaaGreatDoorCP42
import Derived.Test.YtbhboeijjgiflaaGreatDoorCP40
set_option maxRecDepth 100000
set_option maxHeartbeats 4000000
set_option linter.all false
namespace Go.Ab
open Enc (enc)
theorem yb7(p q:List GMono)(D D' B B':Nat)(hp:PVal p)(hq:PVal q)(h1:pqb D B p)(h2:pqb D' B' q)(hD0:D≠0)(hD0':D'≠0)(hD:D*D'<4294967296^1048576)
  (hB:46656*(B*B')<4294967296^1048576) (hs:psm p 524288) (hs':psm q 524288):pmOk p q:=by
 have hpl:=za7 hp;have hql:=za7 hq;have c1:=zdw h1 hp;have c2:=zdw h2 hq;have hDD:D*D'≠0:=ynr hD0 hD0';refine⟨hs,hs',fun i k h=>?_⟩;have h3:=zvm (m:=p[i]) (q:=q.take k) (c1 _ (yl4 h)) (fun x hx=>c2 x (ym3 hx)) (zm7 (p:=p.take i) (fun x hx=>c1 x (ym3 hx)) c2 hDD) hDD;refine zfq h3 (zia _ (zbu _ _)) hDD hD (yml ?_ hB);have h4:(p.take i).length+1<=216:=by simp;omega
 have h5:(q.take k).length<=216:=by simp;omega
 clear hD hB;generalize B*B'=C at *
 calc (p.take i).length*(q.length*C)+(q.take k).length*C<=(p.take i).length*(216*C)+1*(216*C):=Nat.add_le_add (yn9 _ (ylw _ hql)) (by rw[Nat.one_mul];exact ylw _ h5)
  _=((p.take i).length+1)*(216*C):=by rw[ym7]
  _<=216*(216*C):=ylw _ h4
  _=46656*C:=by omega
structure MeasP {r:GRing} (M:Meas r):Prop where
 plusP:∀ {v w:GW} {n:Nat},n<=M.lim->v.chk r->w.chk r->M.mb n v->M.mb n w->Sp P F.ap [enc r,enc v,enc w] (.pure (enc (r.plus v w)))
 timesP:∀ {v w:GW} {n:Nat},n<=M.lim->v.chk r->w.chk r->M.mb n v->M.mb n w->Sp P F.ay [enc r,enc v,enc w] (.pure (enc (r.times v w)))
 smP:∀ {w:GW} {n:Nat},n<=M.lim->w.chk r->M.mb n w->w.sm 400000
section
variable {E H s:Nat} (L:LB E H s)
include L in
theorem yau{v w:GW}{n:Nat}(hv:v.lb1 E H n)(hw:w.lb1 E H n)(hs:szN s n<=400000)(pv:PVal v.poly)(pw:PVal w.poly):pmOk v.poly w.poly:=by have hB:H^(n / 100)*2^(n % 100) / 46656<4294967296^szN s n:=yml (yoo _ _) (L_HB L n);have s1:psm v.poly (szN s n):=zfq (zht hv.p) pv (L.ene _) (L_D L n) hB;have s2:psm w.poly (szN s n):=zfq (zht hw.p) pw (L.ene _) (L_D L n) hB;obtain⟨a1,a2⟩:=yge L hs hs;exact yb7 _ _ _ _ _ _ pv pw (zht hv.p) (zht hw.p) (L.ene _) (L.ene _) a1 a2 (s1.monoR (by omega)) (s2.monoR (by omega))
theorem yj2(r:GRing)(hr:r.ok=true)(lim:Nat)(h1:216<=szN s lim)(h2:szN s lim<=400000):MeasP (lwM L r hr lim h1 h2):=by
 refine⟨fun {v w n} hn cv cw hv hw=>?_,fun {v w n} hn cv cw hv hw=>?_,fun {w n} hn cw hw=>(zg0 L cw (GW.lb.mono L hw hn) h1).mono h2⟩
 ·exact ztj r v w (szN s lim) (zg0 L cv (GW.lb.mono L hv hn) h1) (zg0 L cw (GW.lb.mono L hw hn) h1) h2 (by omega) cv cw
 ·have kv:=GW.lb.mono L hv hn;have kw:=GW.lb.mono L hw hn;have sv:v.sm 400000:=(zg0 L cv kv h1).mono h2;have sw:w.sm 400000:=(zg0 L cw kw h1).mono h2;refine z1r r v w (sv.mono (by omega)) (sw.mono (by omega)) cv cw (fun h5=>?_) fun i h h3 h4 h5=>?_
  ·exact yau L kv.o kw.o h2 (si_p (cv.2.1 (by rw[h5];decide))) (si_p (cw.2.1 (by rw[h5];decide)))
  ·have h6:r.kind=6:=by apply Decidable.byContradiction;intro h6;have:=(GRing.ok_kind hr h6).2.2;rw[this]at h;simp at h
   exact yau L (kv.ps _ (yl4 h3)) (kw.ps _ (yl4 h4)) h2 (si_p ((cv.2.2 h6).2.2 i h h3)) (si_p ((cw.2.2 h6).2.2 i h h4))
end
theorem zyc{t:GTrans}(ok:t.ok)(h:∀ w∈t.wts,w.li)(hl:t.wts.length<=22):∃ M:Meas t.ring,M.lim=12000/\MeasP M/\t.nf.fits M (t.arcs.length+100):=by
 have hE:=yc1 h hl;have L0:∀ s,s=3081->LB (lden t.wts) (HH (lden t.wts)) s:=fun s e=>yk5 (z8z _) (ltW hE (by omega)) (by omega);have L:=L0 3081 rfl;refine⟨lwM L t.ring ok.ring 12000 (by decide) (by decide),rfl,yj2 L t.ring ok.ring 12000 (by decide) (by decide),?_⟩;have hb:∀ w∈t.wts,w.chk t.ring->w.lb (lden t.wts) (HH (lden t.wts)) 100:=fun w hw hc=>yj3 L hc (h w hw) (z80 hw)
 exact z8p ok (lwM L t.ring ok.ring 12000 (by decide) (by decide)) (fun w hw=>hb w (by simp[GTrans.wts,hw]) (ok.ini w hw)) (fun w hw=>hb w (by simp[GTrans.wts,hw]) (ok.fin w hw))
  (fun x hx=>hb x.w (by simp only[GTrans.wts,ylp,yl6];exact .inr (.inr ⟨x,hx,rfl⟩)) (ok.arcs x hx).2.2.2.2.2.2.2.2)
end Go.Ab
namespace Go.Ab
open Enc (enc)
attribute [local go_sem] zal Opd.slots
theorem zxf(l:Int)(h:0<=l/\l<=64):Sp P F.d4 [.int .i64 l] (.pure (.int .i64 (stp l:Nat))):=by
 have:=ybp l h;have e:(if l=0 then(0:Int)else 1)=((stp l:Nat):Int):=by unfold stp;split<;>rfl
 rwa[e]at this
def f1S(t:GTrans)(wx wy:List Int)(I J N:Nat)(T:List (List GW))(ord:List Int)(i k idx q:Nat)(w:GW)(x:Nat):St :=
 ⟨[(0,.ptr 900000 0 0 0),(1,.p (.sl (ens ord))),(4,.p (.int .i64 i)),(5,.p (.int .i64 k)),(7,.p (.int .i64 q)),(8,.ptr 3 0 0 0),(15,.p (.int .i64 I)),(16,.p (.int .i64 i)),(26,.p (.int .i64 J)),(27,.p (.int .i64 k)),(30,.p (.sl (ens ord))),(31,.p (.int .i64 ord.length)),(32,.p (.int .i64 idx)),(60,.p (.sl (ens t.arcs))),(61,.p (.int .i64 t.arcs.length)),(62,.p (.int .i64 x))],
  hpT t wx wy I J N T++[(3,[some ⟨8,[.p (enc w)]⟩]),(DEAD,[none])]⟩
theorem yj4:g.n9=.seq (.reg [⟨some 63,.ibin .lss (.t 62) (.t 61),none⟩] []) (.seq (.cond (.t 63) [63] (.nop) (.ext 6)) (.seq (.blk 7 zwh) z0k)):=rfl
def f2S(t:GTrans)(wx wy:List Int)(I J N:Nat)(T:List (List GW))(ord:List Int)(i k idx q:Nat)(w:GW)(x:Nat)(a:GTArc):St :=
 ⟨[(0,.ptr 900000 0 0 0),(1,.p (.sl (ens ord))),(4,.p (.int .i64 i)),(5,.p (.int .i64 k)),(7,.p (.int .i64 q)),(8,.ptr 3 0 0 0),(10,.ptr 10 0 0 0),(15,.p (.int .i64 I)),(16,.p (.int .i64 i)),(26,.p (.int .i64 J)),(27,.p (.int .i64 k)),(30,.p (.sl (ens ord))),(31,.p (.int .i64 ord.length)),(32,.p (.int .i64 idx)),(60,.p (.sl (ens t.arcs))),(61,.p (.int .i64 t.arcs.length)),(62,.p (.int .i64 x))],
  hpT t wx wy I J N T++[(3,[some ⟨8,[.p (enc w)]⟩]),(10,[some ⟨12,[.p (enc a)]⟩]),(DEAD,[none])]⟩
theorem zas(I J N:Nat)(T:List (List GW)):zbt [900000,900001,900002,900003] ((List.range I).map (outV J))=true/\(∀ x:Option AObj,x∈famR I J N->zrb [900000,900001,900002,900003] x=true)/\∀ x:Option AObj,x∈famC T->zrb [900000,900001,900002,900003] x=true:=by
 refine⟨zvy _ rfl J _,fun x hx=>?_,fun x hx=>?_⟩
 ·obtain⟨i,_,rfl⟩:=yl6.1 hx;exact zvg _ rfl N _ _
 ·obtain⟨l,_,rfl⟩:=yl6.1 hx;exact ya5 _ l
theorem ydi(t:GTrans)(wx wy:List Int)(I J N:Nat)(T:List (List GW))(ord:List Int)(i k idx q:Nat)(w:GW)(x:Nat)(A:FA)(hx:x<t.arcs.length)(R:Exit->St->Option FA->Prop)
  (hn:∀ s,Weak s (f2S t wx wy I J N T ord i k idx q w x t.arcs[x])->MR P 104 z5b.er s (some A) R) :
  MR P 104 zwh.er (f1S t wx wy I J N T ord i k idx q w x) (some A) R:=by
 unfold zwh;refine MR.gseq ?_;generalize z5b=FB at *
 simp[f1S,go_sem,hpT,tabV];refine zae hx ?_;refine hn _ (Weak.toF [0,1,4,5,7,8,10,15,16,26,27,30,31,32,60,61,62] [900000,900001,900002,900003] [((3,0),3),((10,0),10)] ?_);simp[go_sem,f2S,hpT,tabV];exact zas I J N T
theorem ygp(t:GTrans)(wx wy:List Int)(I J N:Nat)(T:List (List GW))(ord:List Int)(i k idx q:Nat)(w:GW)(x:Nat)(a:GTArc)(A:FA)(hl:T.length=I*J)(hN:∀ l∈T,l.length=N)(ha:a.fit N)(R:Exit->St->Option FA->Prop)
  (hn:∀ b:Bool,(b=true ↔ a.f.toNat=q/\fitT wx wy i k a)->∀ s,Weak s ⟨(76,.p (.bool b))::(f2S t wx wy I J N T ord i k idx q w x a).sl,(f2S t wx wy I J N T ord i k idx q w x a).hp⟩->MR P 104 z0l.er s (some A) R) :
  MR P 104 z5b.er (f2S t wx wy I J N T ord i k idx q w x a) (some A) R:=by
 unfold z5b;refine MR.gseq ?_;generalize z0l=FC at *
 obtain⟨b,hb,hf⟩:∃ b:Bool,(b=true ↔ fitT wx wy i k a)/\Sp P F.bf [.ref (tabP t wx wy (tabA I J T)),enc a,.int .i64 i,.int .i64 k] (.pure (.bool b)):=⟨_,decide_eq_true_iff,ydd t wx wy (tabA I J T) a i k⟩;by_cases hq:a.f=(q:Int)
 ·simp[f2S,go_sem,hpT,tabV,hq];refine zaa hf (zb3 (z6y (N:=N) (by simp[zo3,St.site,look,hpT,tabV]) hl hN) (by simp[go_sem,hq])) ?_;simp[go_sem];refine hn b ?_ _ (Weak.toF [76,0,1,4,5,7,8,10,15,16,26,27,30,31,32,60,61,62] [900000,900001,900002,900003] [((3,0),3),((10,0),10)] ?_)
  ·have:a.f.toNat=q:=by omega
   rw[hb];exact⟨fun h=>⟨this,h⟩,fun h=>h.2⟩
  ·simp[go_sem,f2S,hpT,tabV,hq];exact zas I J N T
 ·simp[f2S,go_sem,hpT,tabV,hq];refine hn false ?_ _ (Weak.toF [76,0,1,4,5,7,8,10,15,16,26,27,30,31,32,60,61,62] [900000,900001,900002,900003] [((3,0),3),((10,0),10)] ?_)
  ·have:=ha.1.1;exact⟨fun h=>(by cases h),fun h=>absurd h.1 (by omega)⟩
  ·simp[go_sem,f2S,hpT,tabV];exact zas I J N T
theorem ygq(t:GTrans)(wx wy:List Int)(I J N:Nat)(T:List (List GW))(ord:List Int)(i k idx q:Nat)(w:GW)(x:Nat)(a:GTArc)(A:FA)(b:Bool)(hi:i+stp a.i<I)(hk:k+stp a.o<J)(hI:I<=1000)(hJ:J<=1000)(hp:(i+stp a.i)*J+(k+stp a.o)<T.length)(hN:∀ l∈T,l.length=N)(ha:a.fit N)
  (hai:0<=a.i/\a.i<=64) (hao:0<=a.o/\a.o<=64)
  (ht:Sp P F.ay [enc t.ring,enc w,enc a.w] (.pure (enc (t.ring.times w a.w))))
  (hpl:Sp P F.ap [enc t.ring,enc ((T.getD ((i+stp a.i)*J+(k+stp a.o)) []).getD a.t.toNat t.ring.zero),enc (t.ring.times w a.w)] (.pure (enc (t.ring.plus ((T.getD ((i+stp a.i)*J+(k+stp a.o)) []).getD a.t.toNat t.ring.zero) (t.ring.times w a.w)))))
  (R:Exit->St->Option FA->Prop)
  (hn:∀ s,Weak s (f1S t wx wy I J N (if b=true then adT t.ring T ((i+stp a.i)*J+(k+stp a.o)) a.t.toNat (t.ring.times w a.w)else T) ord i k idx q w x)->R .normal s (some A)) :
  MR P 104 z0l.er ⟨(76,.p (.bool b))::(f2S t wx wy I J N T ord i k idx q w x a).sl,(f2S t wx wy I J N T ord i k idx q w x a).hp⟩ (some A) R:=by
 unfold z0l;refine MR.gcond (t:=b) (by simp[go_sem]) (fun h=>?_) (fun h=>MR.gnop (hn _ ?_))
 ·subst h;refine MR.gregD rfl rfl ?_;have e1:IntKind.i64.wrap ((i:Int)+(stp a.i:Nat))=((i+stp a.i:Nat):Int):=(i64w (by omega) (by omega)).trans (by omega);have e2:IntKind.i64.wrap ((k:Int)+(stp a.o:Nat))=((k+stp a.o:Nat):Int):=(i64w (by omega) (by omega)).trans (by omega);have e3:a.t=((a.t.toNat:Nat):Int):=by have:=ha.2.1;omega
  simp[f2S,go_sem,hpT,tabV];refine zab (zxf a.i hai) ?_;simp[go_sem,e1];refine zab (zxf a.o hao) ?_;simp[go_sem,e2];refine zab ht ?_;simp[go_sem];refine ztt (zzs t wx wy I J N T (i+stp a.i) (k+stp a.o) a.t.toNat hi hk hp (by have:=ha.2.2;omega) ?_ (t.ring.times w a.w) hpl) ?_ ?_ ?_ ?_ ?_
  ·rw[ylr,ylt hp];exact hN _ (yl4 hp)
  ·simp[go_sem,<- e3]
  ·simp[zo3,St.site,look,hpT,tabV]
  ·rfl
  ·show(true&&hpOk [900000,900001,900002,900003] (hpT t wx wy I J N T)&&true&&hpOk [900000,900001,900002,900003] (hpT t wx wy I J N _))=true;rw[zp8,zp8];rfl
  ·refine hn _ (Weak.toF [0,1,4,5,7,8,15,16,26,27,30,31,32,60,61,62] [900000,900001,900002,900003] [((3,0),3)] ?_);simp[go_sem,f1S,f2S,hpT,tabV];exact zas I J N _
 ·subst h;refine Weak.toF [0,1,4,5,7,8,15,16,26,27,30,31,32,60,61,62] [900000,900001,900002,900003] [((3,0),3)] ?_;simp[go_sem,f1S,f2S,hpT,tabV];exact zas I J N T
structure plOk (t:GTrans) (wx wy:List Int) (I J N:Nat) (i k q:Nat) (w:GW) (T:List (List GW)) (a:GTArc):Prop where
 len:T.length=I*J
 row:∀ l∈T,l.length=N
 fit:a.fit N
 ai:0<=a.i/\a.i<=64
 ao:0<=a.o/\a.o<=64
 ins:a.f.toNat=q->fitT wx wy i k a->i+stp a.i<I/\k+stp a.o<J
 ht:Sp P F.ay [enc t.ring,enc w,enc a.w] (.pure (enc (t.ring.times w a.w)))
 hpl:∀ p,Sp P F.ap [enc t.ring,enc ((T.getD p []).getD a.t.toNat t.ring.zero),enc (t.ring.times w a.w)] (.pure (enc (t.ring.plus ((T.getD p []).getD a.t.toNat t.ring.zero) (t.ring.times w a.w))))
theorem z3j{I J i k:Nat}(hi:i<I)(hk:k<J):i*J+k<I*J:=by have:=ylw J (ypf hi);rw[ym9]at this;omega
theorem ydj(t:GTrans)(wx wy:List Int)(I J N:Nat)(T:List (List GW))(ord:List Int)(i k idx q:Nat)(w:GW)(A:FA)(hJ:J=wy.length+1)(hI:I<=1000)(hJ1:J<=1000)(hal:t.arcs.length<=1000)
  (hok:∀ x,(h:x<t.arcs.length)->plOk t wx wy I J N i k q w ((t.arcs.take x).foldl (arT t.ring wx wy i k q w) T) t.arcs[x]) {s:St} (hw:Weak s (f1S t wx wy I J N T ord i k idx q w 0)) :
  MR P 104 (GC.loop g.n9).er s (some A) fun ex s B=>ex=.exit 6/\B=some A/\Weak s (f1S t wx wy I J N (t.arcs.foldl (arT t.ring wx wy i k q w) T) ord i k idx q w t.arcs.length):=by
 refine MR.gloop (I:=fun n s B=>∃ x,x<=t.arcs.length/\n=t.arcs.length - x/\Weak s (f1S t wx wy I J N ((t.arcs.take x).foldl (arT t.ring wx wy i k q w) T) ord i k idx q w x)/\B=some A) t.arcs.length ⟨0,by omega,by omega,hw,rfl⟩ ?_;rintro n0 s B ⟨x,hx,rfl,hw,rfl⟩;refine MR.weak hw ?_;generalize hR:(fun(ex:Exit) (s:St) (B:Option FA)=>(ex=.normal->∃ m,m<t.arcs.length - x/\∃ x,x<=t.arcs.length/\m=t.arcs.length - x/\Weak s (f1S t wx wy I J N ((t.arcs.take x).foldl (arT t.ring wx wy i k q w) T) ord i k idx q w x)/\B=some A)/\(ex ≠ .normal->ex=.exit 6/\B=some A/\Weak s (f1S t wx wy I J N (t.arcs.foldl (arT t.ring wx wy i k q w) T) ord i k idx q w t.arcs.length)))=R;have r1:x<t.arcs.length->∀ s,Weak s (f1S t wx wy I J N ((t.arcs.take (x+1)).foldl (arT t.ring wx wy i k q w) T) ord i k idx q w (x+1))->R .normal s (some A):=fun h s hw=>by subst hR;exact⟨fun _=>⟨t.arcs.length - (x+1),by omega,x+1,by omega,rfl,hw,rfl⟩,fun h=>absurd rfl h⟩
 have r2:x=t.arcs.length->∀ s,Weak s (f1S t wx wy I J N ((t.arcs.take x).foldl (arT t.ring wx wy i k q w) T) ord i k idx q w x)->R (.exit 6) s (some A):=fun h s hw=>by subst hR;refine⟨fun h=>(by cases h),fun _=>⟨rfl,rfl,?_⟩⟩;rw[h,ym4]at hw;exact hw
 clear hR hw;have hst:∀ h:x<t.arcs.length,(t.arcs.take (x+1)).foldl (arT t.ring wx wy i k q w) T=arT t.ring wx wy i k q w ((t.arcs.take x).foldl (arT t.ring wx wy i k q w) T) t.arcs[x]:=fun h=>by rw[yls h,ymp];rfl
 have hok':=hok x;clear hok;generalize (t.arcs.take x).foldl (arT t.ring wx wy i k q w) T=Tx at *
 rw[yj4];by_cases hlt:x<t.arcs.length
 ·have ok:=hok' hlt;rw[hst hlt]at r1;have r3:=r1 hlt;clear r1 r2 hst;have e1:=i64s x (by omega);have hA:MR P 104 zwh.er (f1S t wx wy I J N Tx ord i k idx q w x) (some A) fun ex s B=>(exB 7 ex=.normal->MR P 104 z0k.er s B R)/\(exB 7 ex ≠ .normal->R (exB 7 ex) s B):=by
   refine ydi t wx wy I J N Tx ord i k idx q w x A hlt _ fun s hw=>MR.weak hw (ygp t wx wy I J N Tx ord i k idx q w x t.arcs[x] A ok.len ok.row ok.fit _ fun b hb s hw=>MR.weak hw ?_);have hfin:∀ s,Weak s (f1S t wx wy I J N (if b=true then adT t.ring Tx ((i+stp t.arcs[x].i)*J+(k+stp t.arcs[x].o)) t.arcs[x].t.toNat (t.ring.times w t.arcs[x].w)else Tx) ord i k idx q w x)->(exB 7 .normal=.normal->MR P 104 z0k.er s (some A) R)/\(exB 7 .normal ≠ .normal->R (exB 7 .normal) s (some A)):=fun s hw=>by
    have he:(if b=true then adT t.ring Tx ((i+stp t.arcs[x].i)*J+(k+stp t.arcs[x].o)) t.arcs[x].t.toNat (t.ring.times w t.arcs[x].w)else Tx)=arT t.ring wx wy i k q w Tx t.arcs[x]:=by
     unfold arT;rw[hJ];by_cases hc:b=true
     ·rw[yl0 hc,yl0 (hb.1 hc)]
     ·rw[yl1 hc,yl1 fun h=>hc (hb.2 h)]
    rw[he]at hw;refine⟨fun _=>MR.weak hw (MR.of_vm ?_),fun h=>absurd rfl h⟩;simp[z0k,f1S,go_sem,hpT,tabV,e1];refine r3 _ (Weak.toF [0,1,4,5,7,8,15,16,26,27,30,31,32,60,61,62] [900000,900001,900002,900003] [((3,0),3)] ?_);simp[go_sem,f1S,hpT,tabV];exact zas I J N _
   cases b with
   | false =>
    unfold z0l;refine MR.gcond (t:=false) (by simp[go_sem]) (fun h=>by cases h) (fun h=>MR.gnop (hfin _ ?_));refine Weak.toF [0,1,4,5,7,8,15,16,26,27,30,31,32,60,61,62] [900000,900001,900002,900003] [((3,0),3)] ?_;simp[go_sem,f1S,f2S,hpT,tabV];exact zas I J N Tx
   | true =>
    obtain⟨c1,c2⟩:=hb.1 rfl;obtain⟨c3,c4⟩:=ok.ins c1 c2;exact ygq t wx wy I J N Tx ord i k idx q w x t.arcs[x] A true c3 c4 hI hJ1 (by rw[ok.len];exact z3j c3 c4) ok.row ok.fit ok.ai ok.ao ok.ht (ok.hpl _) _ hfin
  refine MR.gseq ?_;generalize zwh=FA0 at *
  simp[f1S,go_sem,hlt];refine MR.gseq' (MR.gcond (t:=true) (by simp[go_sem,hlt]) (fun _=>MR.gnop ⟨fun _=>?_,fun h=>absurd rfl h⟩) (fun h=>by cases h));refine MR.gseq' (MR.gblk ?_);refine MR.weak ?_ hA;refine Weak.toF [0,1,4,5,7,8,15,16,26,27,30,31,32,60,61,62] [900000,900001,900002,900003] [((3,0),3)] ?_;simp[go_sem,f1S,hpT,tabV];exact zas I J N Tx
 ·have hx':x=t.arcs.length:=by omega
  have r3:=r2 hx';clear r1 r2 hst;refine MR.gseq ?_;generalize zwh=FA0 at *
  generalize z0k=FZ0 at *
  simp[f1S,go_sem,hlt];refine MR.gseq' (MR.gcond (t:=false) (by simp[go_sem,hlt]) (fun h=>(by cases h)) (fun _=>MR.gext ⟨fun h=>(by cases h),fun _=>r3 _ ?_⟩));refine Weak.toF [0,1,4,5,7,8,15,16,26,27,30,31,32,60,61,62] [900000,900001,900002,900003] [((3,0),3)] ?_;simp[go_sem,f1S,hpT,tabV];exact zas I J N Tx
theorem ygo:g.od=.seq (.reg [⟨some 33,.ibin .lss (.t 32) (.t 31),none⟩] []) flB9:=rfl
def toI(l:List Nat):List Int:=l.map fun(q:Nat)=>(q:Int)
theorem zdp(l:List Nat):(toI l).length=l.length:=by simp[toI]
def f3S(t:GTrans)(wx wy:List Int)(I J N:Nat)(T:List (List GW))(ord:List Nat)(i k idx:Nat):St :=
 ⟨[(0,.ptr 900000 0 0 0),(1,.p (.sl (ens (toI ord)))),(4,.p (.int .i64 i)),(5,.p (.int .i64 k)),(15,.p (.int .i64 I)),(16,.p (.int .i64 i)),(26,.p (.int .i64 J)),(27,.p (.int .i64 k)),(30,.p (.sl (ens (toI ord)))),(31,.p (.int .i64 ord.length)),(32,.p (.int .i64 idx))],
  hpT t wx wy I J N T++[(DEAD,[none])]⟩
def f5S(t:GTrans)(wx wy:List Int)(I J N:Nat)(T:List (List GW))(ord:List Nat)(i k idx q:Nat):St :=
 ⟨[(0,.ptr 900000 0 0 0),(1,.p (.sl (ens (toI ord)))),(4,.p (.int .i64 i)),(5,.p (.int .i64 k)),(7,.p (.int .i64 q)),(15,.p (.int .i64 I)),(16,.p (.int .i64 i)),(26,.p (.int .i64 J)),(27,.p (.int .i64 k)),(30,.p (.sl (ens (toI ord)))),(31,.p (.int .i64 ord.length)),(32,.p (.int .i64 idx))],
  hpT t wx wy I J N T++[(DEAD,[none])]⟩
def f6S(t:GTrans)(wx wy:List Int)(I J N:Nat)(T:List (List GW))(ord:List Nat)(i k idx q:Nat)(w:GW):St :=
 ⟨[(0,.ptr 900000 0 0 0),(1,.p (.sl (ens (toI ord)))),(4,.p (.int .i64 i)),(5,.p (.int .i64 k)),(7,.p (.int .i64 q)),(8,.ptr 3 0 0 0),(15,.p (.int .i64 I)),(16,.p (.int .i64 i)),(26,.p (.int .i64 J)),(27,.p (.int .i64 k)),(30,.p (.sl (ens (toI ord)))),(31,.p (.int .i64 ord.length)),(32,.p (.int .i64 idx))],
  hpT t wx wy I J N T++[(3,[some ⟨8,[.p (enc w)]⟩]),(DEAD,[none])]⟩
section
variable (t:GTrans) (wx wy:List Int) (I J N:Nat) (T:List (List GW)) (ord:List Nat) (i k idx:Nat) (A:FA) (R:Exit->St->Option FA->Prop)
theorem f3_a(hx:idx<ord.length)(hn:∀ s,Weak s (f5S t wx wy I J N T ord i k idx ord[idx])->MR P 104 flB5.er s (some A) R):MR P 104 flB6.er (f3S t wx wy I J N T ord i k idx) (some A) R:=by
 unfold flB6;refine MR.gseq ?_;generalize flB5=FB at *
 have hx2:idx<(toI ord).length:=by rw[zdp];exact hx
 have hg:(toI ord)[idx]=((ord[idx]:Nat):Int):=by simp[toI]
 simp[f3S,go_sem,hpT,tabV,zdp];refine zae hx2 ?_;rw[hg];refine hn _ (Weak.toF [0,1,4,5,7,15,16,26,27,30,31,32] [900000,900001,900002,900003] [] ?_);simp[go_sem,f5S,hpT,tabV];exact zas I J N T
theorem f3_b{q:Nat}(hi:i<I)(hk:k<J)(hl:T.length=I*J)(hN:∀ l∈T,l.length=N)(hq:q<N)(hn:∀ s,Weak s (f6S t wx wy I J N T ord i k idx q ((T.getD (i*J+k) []).getD q t.ring.zero))->MR P 104 flB4.er s (some A) R) :
  MR P 104 flB5.er (f5S t wx wy I J N T ord i k idx q) (some A) R:=by
 unfold flB5;refine MR.gseq ?_;generalize flB4=FB at *
 have hp:i*J+k<T.length:=by rw[hl];exact z3j hi hk
 have e1:=zj4 (N:=N) (J:=J) hi;have e2:=zj5 hp;have hrow:(T.getD (i*J+k) []).length=N:=by rw[ylr,ylt hp];exact hN _ (yl4 hp)
 have r1:(List.map (outV J) (List.range I))[i]?=some (outV J i):=by rw[yme,ync hi];rfl
 have r2:(List.map (rowV N (i*J)) (List.range J))[k]?=some (rowV N (i*J) k):=by rw[yme,ync hk];rfl
 simp[f5S,go_sem,hpT,tabV];refine⟨hi,?_⟩;rw[zbx];refine⟨_,r1,?_⟩;simp[go_sem,outV,e1,hi,hk];rw[zbx];refine⟨_,r2,?_⟩;generalize T.getD (i*J+k) []=row at *
 have hql:q<row.length:=by omega
 have hgq:row.getD q t.ring.zero=row[q]:=by rw[ylr,ylt hql];rfl
 simp[go_sem,rowV,e1,e2,hi,hk,hrow,hq];refine zae hql ?_;rw[hgq]at hn;refine hn _ (Weak.toF [0,1,4,5,7,8,15,16,26,27,30,31,32] [900000,900001,900002,900003] [((8,0),3)] ?_);simp[go_sem,f6S,hpT,tabV];exact zas I J N T
theorem f3_c{q:Nat}{w:GW}(hs:w.sm 1048576)(h0:w=t.ring.zero->∀ s,Weak s (f6S t wx wy I J N T ord i k idx q w)->R (.exit 5) s (some A))(hn:w≠t.ring.zero->∀ s,Weak s (f6S t wx wy I J N T ord i k idx q w)->MR P 104 flB3.er s (some A) R) :
  MR P 104 flB4.er (f6S t wx wy I J N T ord i k idx q w) (some A) R:=by
 unfold flB4 flB1;refine MR.gseq ?_;generalize flB3=FB at *
 simp[f6S,go_sem,hpT,tabV];refine zab (zp6 t.ring w hs) ?_;by_cases hz:w=t.ring.zero
 ·simp[go_sem,hz];refine h0 hz _ (Weak.toF [0,1,4,5,7,8,15,16,26,27,30,31,32] [900000,900001,900002,900003] [((3,0),3)] ?_);simp[go_sem,f6S,hpT,tabV,hz];exact zas I J N T
 ·simp[go_sem,hz];refine hn hz _ (Weak.toF [0,1,4,5,7,8,15,16,26,27,30,31,32] [900000,900001,900002,900003] [((3,0),3)] ?_);simp[go_sem,f6S,hpT,tabV];exact zas I J N T
theorem f3_d{q:Nat}{w:GW}(hJ:J=wy.length+1)(hI:I<=1000)(hJ1:J<=1000)(hal:t.arcs.length<=1000)
  (hok:∀ x,(h:x<t.arcs.length)->plOk t wx wy I J N i k q w ((t.arcs.take x).foldl (arT t.ring wx wy i k q w) T) t.arcs[x])
  (hn:∀ s,Weak s (f1S t wx wy I J N (t.arcs.foldl (arT t.ring wx wy i k q w) T) (toI ord) i k idx q w t.arcs.length)->R .normal s (some A)) :
  MR P 104 flB3.er (f6S t wx wy I J N T ord i k idx q w) (some A) R:=by
 have hloop:=fun(s:St) hw=>ydj t wx wy I J N T (toI ord) i k idx q w A hJ hI hJ1 hal hok (s:=s) hw;unfold flB3 flB2;refine MR.gseq ?_;generalize (GC.loop g.n9)=L at *
 simp[f6S,go_sem,hpT,tabV];refine MR.gblk ((hloop _ (Weak.toF [0,1,4,5,7,8,15,16,26,27,30,31,32,60,61,62] [900000,900001,900002,900003] [((3,0),3)] ?_)).mono ?_)
 ·simp[go_sem,f1S,hpT,tabV,zdp];exact zas I J N T
 ·rintro ex s B ⟨rfl,rfl,hw⟩;exact hn s hw
end
end Go.Ab
namespace Go.Ab
section
variable {r:GRing} (hr:r.ok=true) {t:GTrans} (ht:ckT r t) {wx wy:List Int}
structure tord (t:GTrans) (ord:List Nat):Prop where
 nd:ord.Nodup
 all:∀ q,q∈ord ↔ q<t.st.toNat
 len:ord.length<=t.st.toNat
 go:∀ pre q post,ord=pre++q::post->∀ x∈t.arcs,emF x=true->x.f.toNat=q->x.t.toNat∉pre++[q]
theorem tord.lt{ord:List Nat}(h:tord t ord){x:GTArc}(hx:x∈t.arcs)(he:emF x=true)(h1:x.f.toNat<t.st.toNat)(h2:x.t.toNat<t.st.toNat):ord.idxOf x.f.toNat<ord.idxOf x.t.toNat/\ord.idxOf x.t.toNat<t.st.toNat:=by
 have m1:=(h.all _).2 h1;have m2:=(h.all _).2 h2;have hlen:=h.len;refine⟨?_,ylu (List.idxOf_lt_length_of_mem m2) hlen⟩;obtain⟨pre,post,e⟩:=yp9 m1;have hn:=h.go pre _ post e x hx he rfl;have hnp:x.f.toNat∉pre:=fun hm=>by have:=h.nd;rw[e]at this;exact(yoa.1 this).2.2 _ hm _ ymq rfl
 have e1:ord.idxOf x.f.toNat=pre.length:=by rw[e,List.idxOf_append,yl1 hnp,List.idxOf_cons_self,ymm]
 have e2:pre.length+1<=ord.idxOf x.t.toNat:=by
  have:ord=(pre++[x.f.toNat])++post:=by rw[e];simp
  rw[this,List.idxOf_append,yl1 hn];simp
 omega
include ht in
theorem yff{ord:List Nat}(ho:tord t ord){pre post:List Nat}{q0:Nat}(e:ord=pre++q0::post){i k:Nat}(hi:i<=wx.length)(hk:k<=wy.length){T:List (List GW)}(h:zcf r (plN wx wy) t.st.toNat T) :
  zcf r (plN wx wy) t.st.toNat (stT r wx wy t.arcs i k T q0) /\
  Ph hr (plN wx wy) t.st.toNat (co hr t wx wy (i*(wy.length+1)+k) (pre++[q0])) (stT r wx wy t.arcs i k T q0)=Ph hr (plN wx wy) t.st.toNat (co hr t wx wy (i*(wy.length+1)+k) pre) T:=by
 have hq0:q0<t.st.toNat:=(ho.all q0).1 (by rw[e];simp);have hnp:q0∉pre:=fun hm=>by have:=ho.nd;rw[e]at this;exact(yoa.1 this).2.2 _ hm _ ymq rfl
 have hp0:=zvq hi hk;have hpos:∀ x∈t.arcs,emF x=true->ord.idxOf x.f.toNat<ord.idxOf x.t.toNat/\ord.idxOf x.t.toNat<t.st.toNat:=fun x hx he=>by obtain⟨_,⟨a2,a3⟩,a4,a5⟩:=ht.arcs x hx;exact ho.lt hx he (by omega) (by omega)
 have hrec:=z7e hr ht hi hk (pos:=fun q=>ord.idxOf q) hpos q0;generalize hc:((srG r hr).sum t.arcs fun x=>if x.f.toNat=q0/\fitT wx wy i k x then(srG r hr).m (cw hr x.w) (gd hr (tabW t wx wy (i+stp x.i) (k+stp x.o)) x.t.toNat)else(srG r hr).z)=c at hrec;have htar:∀ x∈t.arcs,x.f.toNat=q0->fitT wx wy i k x->co hr t wx wy (i*(wy.length+1)+k) (pre++[q0]) ((i+stp x.i)*(wy.length+1)+(k+stp x.o)) x.t.toNat=gd hr (tabW t wx wy (i+stp x.i) (k+stp x.o)) x.t.toNat:=fun x hx hf hfit=>by
  have hin:=zyx hfit hi hk;rw[<- z5z hr hin.2];unfold co;rw[yl1];rintro(h1|⟨h1,h2⟩)
  ·have:=ylw (wy.length+1) (Nat.le_add_right i (stp x.i));omega
  ·by_cases he:emF x=true
   ·exact ho.go pre q0 post e x hx he hf h2
   ·have h3:0<stp x.i+stp x.o:=by unfold emF at he;unfold stp;by_cases a:x.i=0<;>by_cases b:x.o=0<;>simp[a,b]at he ⊢
    rw[ym7]at h1;by_cases h4:0<stp x.i
    ·have:=ylw (wy.length+1) h4;omega
    ·have:stp x.i=0:=by omega
     rw[this]at h1;omega
 have hco:=yk3 hr hp0 hq0 T (β := co hr t wx wy (i*(wy.length+1)+k) pre) (β':=co hr t wx wy (i*(wy.length+1)+k) (pre++[q0])) (c:=c) fun p' q' hp' hq'=>by
  by_cases hpq:p'=i*(wy.length+1)+k/\q'=q0
  ·obtain⟨rfl,rfl⟩:=hpq;rw[yl0 ⟨rfl,rfl⟩];unfold co;rw[yl1 (by rintro(h|⟨_,h⟩);omega;exact hnp h),yl0 (.inr ⟨rfl,by simp⟩),z5z hr hk,yhl hr ht hi hk];exact hrec
  ·rw[yl1 hpq];unfold co;by_cases hd:p'<i*(wy.length+1)+k\/(p'=i*(wy.length+1)+k/\q'∈pre)
   ·rw[yl0 hd,yl0];rcases hd with h|⟨h1,h2⟩
    ·exact .inl h
    ·exact .inr ⟨h1,by simp[h2]⟩
   ·rw[yl1 hd,yl1];rintro(h|⟨h1,h2⟩)
    ·exact hd (.inl h)
    ·rcases ylp.1 h2 with h2|h2
     ·exact hd (.inr ⟨h1,h2⟩)
     ·exact hpq ⟨h1,by simpa using h2⟩
 rw[hco];have hw:((T.getD (i*(wy.length+1)+k) []).getD q0 r.zero).chk r:=zig hr (h.get hp0) q0;unfold stT;split
 ·rename_i hz;refine⟨h,?_⟩;have:gd hr (T.getD (i*(wy.length+1)+k) []) q0=(srG r hr).z:=by unfold gd;rw[hz,zwp]
  rw[this,SR.zm,(srG r hr).pz]
 ·obtain⟨i1,i2⟩:=zwx hr ht hi hk (q:=q0) hw (co hr t wx wy (i*(wy.length+1)+k) (pre++[q0])) (l:=t.arcs) (fun _ h=>h) h;refine⟨i1,?_⟩;rw[i2,<- hc]
  congr 2
  refine(srG r hr).sum_congr fun x hx=>?_;by_cases hf:x.f.toNat=q0/\fitT wx wy i k x
  ·rw[yl0 hf,yl0 hf,htar x hx hf.1 hf.2]
  ·rw[yl1 hf,yl1 hf]
include ht in
theorem yav{ord:List Nat}(ho:tord t ord){i k:Nat}(hi:i<=wx.length)(hk:k<=wy.length):∀ (post pre:List Nat),ord=pre++post->∀ {T:List (List GW)},zcf r (plN wx wy) t.st.toNat T ->
  zcf r (plN wx wy) t.st.toNat (post.foldl (stT r wx wy t.arcs i k) T) /\
  Ph hr (plN wx wy) t.st.toNat (co hr t wx wy (i*(wy.length+1)+k+1) []) (post.foldl (stT r wx wy t.arcs i k) T)=Ph hr (plN wx wy) t.st.toNat (co hr t wx wy (i*(wy.length+1)+k) pre) T
 | [],pre,e,T,h=>by
  refine⟨h,yag hr _ fun p q hp hq=>?_⟩;have hq2:q∈pre:=by have:=(ho.all q).2 hq;rw[e,yom]at this;exact this
  unfold co;by_cases h1:p<i*(wy.length+1)+k+1
  ·rw[yl0 (.inl h1),yl0];by_cases h2:p<i*(wy.length+1)+k
   ·exact .inl h2
   ·exact .inr ⟨by omega,hq2⟩
  ·rw[yl1 (by rintro(h|⟨_,h⟩);exact h1 h;cases h),yl1 (by rintro(h|⟨h,_⟩)<;>omega)]
 | q::post,pre,e,T,h=>by obtain⟨i1,i2⟩:=yff hr ht ho e hi hk h;obtain⟨j1,j2⟩:=yav ho hi hk post (pre++[q]) (by rw[e];simp) i1;exact⟨j1,j2.trans i2⟩
include ht in
theorem yai{ord:List Nat}(ho:tord t ord){i:Nat}(hi:i<=wx.length){T:List (List GW)}(h:zcf r (plN wx wy) t.st.toNat T):∀ n,n<=wy.length+1->zcf r (plN wx wy) t.st.toNat (rwT r wx wy t.arcs ord i T n) /\
  Ph hr (plN wx wy) t.st.toNat (co hr t wx wy (i*(wy.length+1)+n) []) (rwT r wx wy t.arcs ord i T n)=Ph hr (plN wx wy) t.st.toNat (co hr t wx wy (i*(wy.length+1)) []) T
 | 0,_=>⟨h,rfl⟩
 | n+1,hn=>by
  obtain⟨i1,i2⟩:=yai ho hi h n (by omega);obtain⟨j1,j2⟩:=yav hr ht ho hi (show n<=wy.length by omega) ord [] rfl i1;have e:rwT r wx wy t.arcs ord i T (n+1)=ord.foldl (stT r wx wy t.arcs i n) (rwT r wx wy t.arcs ord i T n):=by unfold rwT;rw[ynj,ymp];rfl
  rw[e];exact⟨j1,j2.trans i2⟩
include ht in
theorem ya0{ord:List Nat}(ho:tord t ord){T:List (List GW)}(h:zcf r (plN wx wy) t.st.toNat T):∀ n,n<=wx.length+1->zcf r (plN wx wy) t.st.toNat (flT r wx wy t.arcs ord T n) /\
  Ph hr (plN wx wy) t.st.toNat (co hr t wx wy (n*(wy.length+1)) []) (flT r wx wy t.arcs ord T n)=Ph hr (plN wx wy) t.st.toNat (co hr t wx wy 0 []) T
 | 0,_=>⟨h,by rw[yox];rfl⟩
 | n+1,hn=>by
  obtain⟨i1,i2⟩:=ya0 ho h n (by omega);obtain⟨j1,j2⟩:=yai hr ht ho (show n<=wx.length by omega) i1 (wy.length+1) (yl8 _);have e:flT r wx wy t.arcs ord T (n+1)=rwT r wx wy t.arcs ord n (flT r wx wy t.arcs ord T n) (wy.length+1):=by unfold flT;rw[ynj,ymp];rfl
  rw[e,ym9];exact⟨j1,j2.trans i2⟩
def T0(r:GRing)(ini:List GW)(K N:Nat):List (List GW):=(List.replicate K (List.replicate N r.zero)).set 0 ini
include ht in
theorem yhv(hi:ckL r t.st.toNat t.ini)(hz:0<plN wx wy):zcf r (plN wx wy) t.st.toNat (T0 r t.ini (plN wx wy) t.st.toNat):=by
 refine⟨by unfold T0;simp,fun l hl=>?_⟩;rcases ynp hl with h|h
 ·rw[ypy h];exact⟨fun w hw=>by rw[ypy hw];exact zbr ht.rok,by simp⟩
 ·rw[h];exact hi
include ht hr in
theorem yda{ord:List Nat}(ho:tord t ord)(hi:ckL r t.st.toNat t.ini):zcf r (plN wx wy) t.st.toNat (flT r wx wy t.arcs ord (T0 r t.ini (plN wx wy) t.st.toNat) (wx.length+1)) /\
  sumW r ((flT r wx wy t.arcs ord (T0 r t.ini (plN wx wy) t.st.toNat) (wx.length+1)).getD (wx.length*(wy.length+1)+wy.length) []) t.fin=wgt t wx wy:=by
 have hz:0<plN wx wy:=by have:=zvq (ymb wx.length) (ymb wy.length);omega
 have h0:=yhv ht hi hz;obtain⟨f1,f2⟩:=ya0 hr ht ho h0 (wx.length+1) (yl8 _);refine⟨f1,?_⟩;have hlast:=zvq (yl8 wx.length) (yl8 wy.length);have hrow:=f1.get hlast;generalize flT r wx wy t.arcs ord (T0 r t.ini (plN wx wy) t.st.toNat) (wx.length+1)=T at *
 have hend:Ph hr (plN wx wy) t.st.toNat (co hr t wx wy ((wx.length+1)*(wy.length+1)) []) T=(srG r hr).dot t.st.toNat (gd hr (T.getD (wx.length*(wy.length+1)+wy.length) [])) (gd hr t.fin):=by
  unfold Ph;rw[(srG r hr).sum_congr (g:=fun p=>if p=wx.length*(wy.length+1)+wy.length then(srG r hr).dot t.st.toNat (gd hr (T.getD p [])) (gd hr t.fin)else(srG r hr).z) fun p hp=>?_]
  ·exact(srG r hr).sum_delta hlast fun p=>(srG r hr).dot t.st.toNat (gd hr (T.getD p [])) (gd hr t.fin)
  ·have hp:=ymh.1 hp;have hco:∀ q,co hr t wx wy ((wx.length+1)*(wy.length+1)) [] p q=coF hr t wx wy p q:=fun q=>by unfold co;rw[yl0 (.inl hp)]
   have hpe:p+1=plN wx wy ↔ p=wx.length*(wy.length+1)+wy.length:=by unfold plN;rw[ym9];omega
   by_cases h:p=wx.length*(wy.length+1)+wy.length
   ·rw[yl0 h];refine(srG r hr).sum_congr fun q _=>?_;rw[hco];unfold coF;rw[yl0 (hpe.2 h)]
   ·rw[yl1 h,(srG r hr).sum_congr (g:=fun _=>(srG r hr).z) fun q _=>?_,SR.sum_zero];rw[hco];unfold coF;rw[yl1 fun h'=>h (hpe.1 h'),(srG r hr).mz]
 have hbeg:Ph hr (plN wx wy) t.st.toNat (co hr t wx wy 0 []) (T0 r t.ini (plN wx wy) t.st.toNat)=(srG r hr).dot t.st.toNat (gd hr t.ini) (gd hr (tabW t wx wy 0 0)):=by
  unfold Ph;rw[(srG r hr).sum_congr (g:=fun p=>if p=0 then(srG r hr).dot t.st.toNat (gd hr t.ini) (gd hr (tabW t wx wy 0 0))else(srG r hr).z) fun p hp=>?_]
  ·exact(srG r hr).sum_delta hz fun _=>(srG r hr).dot t.st.toNat (gd hr t.ini) (gd hr (tabW t wx wy 0 0))
  ·have hp:=ymh.1 hp;by_cases h:p=0
   ·subst h;rw[if_pos rfl];refine(srG r hr).sum_congr fun q _=>?_;have e1:(T0 r t.ini (plN wx wy) t.st.toNat).getD 0 []=t.ini:=by unfold T0;rw[List.getD_eq_getElem?_getD,List.getElem?_set_self (by simpa using hz)];rfl
    have e2:co hr t wx wy 0 [] 0 q=gd hr (tabW t wx wy 0 0) q:=by have:=z5z hr (t:=t) (wx:=wx) (wy:=wy) (i:=0) (k:=0) (ymb _) q;rw[yox,ymw]at this;unfold co;rw[yl1 (by simp),this]
    rw[e1,e2]
   ·rw[yl1 h,(srG r hr).sum_congr (g:=fun _=>(srG r hr).z) fun q _=>?_,SR.sum_zero];have e1:(T0 r t.ini (plN wx wy) t.st.toNat).getD p []=List.replicate t.st.toNat r.zero:=by unfold T0;rw[ylr,yor (ymc h),yr2,yl0 hp];rfl
    rw[e1,zyr,SR.zm]
 rw[hend,hbeg]at f2;have s1:=zwq hr hrow ht.fin t.st.toNat (yl8 _);have s2:=zwq hr hi (z1x ht (wx:=wx) (wy:=wy) (ymb _) (ymb _)) t.st.toNat (yl8 _);rw[zjd (by rw[hrow.2];omega)]at s1;rw[zjd (by rw[hi.2];omega)]at s2;refine yhk hr s1.1 (by unfold wgt;rw[ht.ring];exact s2.1) ?_;rw[s1.2];have:cw hr (wgt t wx wy)=(srG r hr).dot t.st.toNat (gd hr t.ini) (gd hr (tabW t wx wy 0 0)):=by unfold wgt;rw[ht.ring];exact s2.2
 rw[this];exact f2
end
section
variable {r:GRing} (M:Meas r) (hr:r.ok=true)
def vbT(b:Nat)(T:List (List GW)):Prop:=∀ l∈T,vb M b l
variable {M}
theorem vbT.mono{m n:Nat}{T:List (List GW)}(h:vbT M m T)(k:m<=n):vbT M n T:=fun l hl=>zdo (h l hl) k
theorem vbT.get{b:Nat}{T:List (List GW)}(h:vbT M b T)(p:Nat):vb M b (T.getD p []):=by
 rw[ylr];by_cases hp:p<T.length
 ·rw[ylt hp];exact h _ (yl4 _)
 ·rw[yn4 (by omega)];intro w hw;cases hw
include hr in
theorem yjf{b:Nat}{l:List GW}(h:vb M b l)(q:Nat):(l.getD q r.zero).chk r/\M.mb b (l.getD q r.zero):=by
 by_cases hq:q<l.length
 ·exact zu2 h hq
 ·rw[ylr,yn4 (by omega)];exact⟨zbr hr,M.mono M.zero (ymb _)⟩
include hr in
theorem vbT.at{b:Nat}{T:List (List GW)}(h:vbT M b T)(p q:Nat):((T.getD p []).getD q r.zero).chk r/\M.mb b ((T.getD p []).getD q r.zero):=yjf hr (h.get p) q
include hr in
theorem yht{b p q:Nat}{T:List (List GW)}{w:GW}(h:vbT M b T)(hw:w.chk r/\M.mb b w):vbT M (b+1) (adT r T p q w):=by
 intro l hl;rcases ynp hl with h1|h1
 ·exact zdo (h l h1) (by omega)
 ·rw[h1];intro v hv;have g:=h.at hr p q;rcases ynp hv with h2|h2
  ·exact⟨(h.get p v h2).1,M.mono (h.get p v h2).2 (by omega)⟩
  ·rw[h2];exact⟨zck g.1 hw.1,M.plus g.1 hw.1 g.2 hw.2⟩
variable {c:Nat} {wx wy:List Int} {A:List GTArc}
include hr in
theorem yhr{B b i k q:Nat}{T:List (List GW)}{w:GW}{x:GTArc}(h:vbT M b T)(hw:w.chk r/\M.mb B w)(hx:x.w.chk r/\M.mb c x.w)(hb:B+c+1<=b):vbT M (b+1) (arT r wx wy i k q w T x):=by
 unfold arT;split
 ·exact yht hr h ⟨za8 hw.1 hx.1,M.mono (M.times hw.1 hx.1 hw.2 hx.2) hb⟩
 ·exact h.mono (by omega)
include hr in
theorem z6k{B i k q:Nat}{w:GW}(hw:w.chk r/\M.mb B w):∀ {l:List GTArc} {b:Nat} {T:List (List GW)},(∀ x∈l,x.w.chk r/\M.mb c x.w)->B+c+1<=b->vbT M b T->vbT M (b+l.length) (l.foldl (arT r wx wy i k q w) T)
 | [],b,T,_,_,h=>h
 | x::l,b,T,hx,hb,h=>by have:=z6k (i:=i) (k:=k) (q:=q) (T:=arT r wx wy i k q w T x) hw (l:=l) (b:=b+1) (fun y hy=>hx y (by simp[hy])) (by omega) (yhr hr h hw (hx x (by simp)) hb);exact this.mono (by simp;omega)
def sLv(c:Nat)(A:List GTArc):Nat:=c+1+A.length
include hr in
theorem yfg{B i k q:Nat}{T:List (List GW)}(hA:∀ x∈A,x.w.chk r/\M.mb c x.w)(h:vbT M B T):vbT M (B+sLv c A) (stT r wx wy A i k T q):=by
 unfold stT sLv;split
 ·exact h.mono (by omega)
 ·exact(z6k (wx:=wx) (wy:=wy) (i:=i) (k:=k) (q:=q) hr (h.at hr (i*(wy.length+1)+k) q) hA (yl8 _) (h.mono (by omega))).mono (by omega)
end
end Go.Ab
namespace Go.Ab
open Enc (enc)
attribute [local go_sem] zal Opd.slots
theorem ygn:g.oe=.seq (.reg [⟨some 28,.ibin .lss (.t 27) (.t 26),none⟩] []) flC6:=rfl
theorem ygm:g.og=.seq (.reg [⟨some 17,.ibin .lss (.t 16) (.t 15),none⟩] []) flD6:=rfl
theorem ygl:g.jv=.seq (.reg [⟨some 11,.mv (.t 0),none⟩,⟨some 12,.nilck (.t 11),none⟩,⟨some 13,.faddr 10 (.t 12),none⟩,⟨some 14,.load 1 false (.t 13),none⟩,⟨some 15,.len (.t 14),none⟩,⟨some 16,.mv (.c (.p (.int .i64 0))),none⟩] [[],[11],[12],[13],[14]]) flE1:=rfl
structure fillOk (t:GTrans) (M:Meas t.ring) (c:Nat):Prop where
 hr:t.ring.ok=true
 ck:ckT t.ring t
 mp:MeasP M
 hA:∀ x∈t.arcs,x.w.chk t.ring/\M.mb c x.w
 lab:∀ x∈t.arcs,(0<=x.i/\x.i<=64)/\0<=x.o/\x.o<=64
 al:t.arcs.length<=1000
 lim:M.lim<=1000000
section
variable {t:GTrans} {M:Meas t.ring} {c:Nat} (fo:fillOk t M c) {wx wy:List Int}
include fo
theorem z47{i k q B:Nat}{T:List (List GW)}{w:GW}(hi:i<=wx.length)(hk:k<=wy.length)(h:zcf t.ring (plN wx wy) t.st.toNat T)(hv:vbT M B T)(hw:w.chk t.ring/\M.mb B w)(x:Nat)(hx:x<=t.arcs.length) :
  zcf t.ring (plN wx wy) t.st.toNat ((t.arcs.take x).foldl (arT t.ring wx wy i k q w) T)/\vbT M (B+c+1+x) ((t.arcs.take x).foldl (arT t.ring wx wy i k q w) T):=by
 refine⟨(zwx fo.hr fo.ck hi hk (q:=q) hw.1 (fun _ _=>(srG t.ring fo.hr).z) (fun y hy=>ym3 hy) h).1,?_⟩;have:=z6k (wx:=wx) (wy:=wy) (i:=i) (k:=k) (q:=q) fo.hr hw (l:=t.arcs.take x) (b:=B+c+1) (T:=T) (fun y hy=>fo.hA y (ym3 hy)) (yl8 _) (hv.mono (by omega))
 rwa[yms,yne hx]at this
theorem ydb{i k q B:Nat}{T:List (List GW)}{w:GW}(hi:i<=wx.length)(hk:k<=wy.length)(h:zcf t.ring (plN wx wy) t.st.toNat T)(hv:vbT M B T)(hw:w.chk t.ring/\M.mb B w)(hl:B+sLv c t.arcs<=M.lim)(x:Nat)(hx:x<t.arcs.length) :
  plOk t wx wy (wx.length+1) (wy.length+1) t.st.toNat i k q w ((t.arcs.take x).foldl (arT t.ring wx wy i k q w) T) t.arcs[x]:=by
 obtain⟨k1,k2⟩:=z47 fo hi hk h hv hw (q:=q) x (by omega);generalize (t.arcs.take x).foldl (arT t.ring wx wy i k q w) T=Tx at *
 have hm:=yl4 hx;have hax:=fo.hA _ hm;unfold sLv at hl;refine⟨k1.1,fun l hl=>(k1.2 l hl).2,(fo.ck.arcs _ hm).2,(fo.lab _ hm).1,(fo.lab _ hm).2,fun _ hf=>?_,?_,fun p=>?_⟩
 ·have:=zyx hf hi hk;omega
 ·exact fo.mp.timesP (n:=B+c) (by omega) hw.1 hax.1 (M.mono hw.2 (by omega)) (M.mono hax.2 (by omega))
 ·have g:=k2.at fo.hr p t.arcs[x].t.toNat;exact fo.mp.plusP (n:=B+c+1+x) (by omega) g.1 (za8 hw.1 hax.1) g.2 (M.mono (M.times hw.1 hax.1 hw.2 hax.2) (by omega))
theorem yfh{i k q B:Nat}{T:List (List GW)}(hi:i<=wx.length)(hk:k<=wy.length)(h:zcf t.ring (plN wx wy) t.st.toNat T)(hv:vbT M B T) :
  zcf t.ring (plN wx wy) t.st.toNat (stT t.ring wx wy t.arcs i k T q)/\vbT M (B+sLv c t.arcs) (stT t.ring wx wy t.arcs i k T q):=by
 refine⟨?_,yfg fo.hr fo.hA hv⟩;unfold stT;split
 ·exact h
 ·have:=(z47 fo hi hk h hv (q:=q) (hv.at fo.hr (i*(wy.length+1)+k) q) t.arcs.length (yl8 _)).1
  rwa[ym4]at this
theorem z3l{i k:Nat}(hi:i<=wx.length)(hk:k<=wy.length):∀ {ord:List Nat} {B:Nat} {T:List (List GW)},zcf t.ring (plN wx wy) t.st.toNat T->vbT M B T ->
  zcf t.ring (plN wx wy) t.st.toNat (plT t.ring wx wy t.arcs ord i k T)/\vbT M (B+ord.length*sLv c t.arcs) (plT t.ring wx wy t.arcs ord i k T)
 | [],B,T,h,hv=>⟨h,hv.mono (by omega)⟩
 | q::ord,B,T,h,hv=>by have s1:=yfh fo hi hk (q:=q) h hv;have s2:=z3l hi hk (ord:=ord) s1.1 s1.2;refine⟨s2.1,s2.2.mono ?_⟩;rw[yn6,ym9];omega
theorem z2g{ord:List Nat}{i B:Nat}{T:List (List GW)}(hi:i<=wx.length)(h:zcf t.ring (plN wx wy) t.st.toNat T)(hv:vbT M B T):∀ n,n<=wy.length+1 ->
  zcf t.ring (plN wx wy) t.st.toNat (rwT t.ring wx wy t.arcs ord i T n)/\vbT M (B+n*(ord.length*sLv c t.arcs)) (rwT t.ring wx wy t.arcs ord i T n)
 | 0,_=>⟨h,hv.mono (by omega)⟩
 | n+1,hn=>by
  have e:rwT t.ring wx wy t.arcs ord i T (n+1)=plT t.ring wx wy t.arcs ord i n (rwT t.ring wx wy t.arcs ord i T n):=by unfold rwT;rw[ynj,ymp];rfl
  have s1:=z2g (ord:=ord) hi h hv n (by omega);have s2:=z3l fo hi (show n<=wy.length by omega) (ord:=ord) s1.1 s1.2;rw[e];exact⟨s2.1,s2.2.mono (by rw[ym9];omega)⟩
theorem z5a{ord:List Nat}{B:Nat}{T:List (List GW)}(h:zcf t.ring (plN wx wy) t.st.toNat T)(hv:vbT M B T):∀ n,n<=wx.length+1 ->
  zcf t.ring (plN wx wy) t.st.toNat (flT t.ring wx wy t.arcs ord T n)/\vbT M (B+n*((wy.length+1)*(ord.length*sLv c t.arcs))) (flT t.ring wx wy t.arcs ord T n)
 | 0,_=>⟨h,hv.mono (by omega)⟩
 | n+1,hn=>by
  have e:flT t.ring wx wy t.arcs ord T (n+1)=rwT t.ring wx wy t.arcs ord n (flT t.ring wx wy t.arcs ord T n) (wy.length+1):=by unfold flT;rw[ynj,ymp];rfl
  have s1:=z5a (ord:=ord) h hv n (by omega);have s2:=z2g fo (show n<=wx.length by omega) (ord:=ord) s1.1 s1.2 (wy.length+1) (yl8 _);rw[e];exact⟨s2.1,s2.2.mono (by generalize (wy.length+1)*(ord.length*sLv c t.arcs)=Y;rw[ym9];omega)⟩
end
theorem f1_3(t:GTrans)(wx wy:List Int)(I J N:Nat)(T:List (List GW))(ord:List Nat)(i k idx q:Nat)(w:GW)(x:Nat):Weak (f1S t wx wy I J N T (toI ord) i k idx q w x) (f3S t wx wy I J N T ord i k idx):=by refine Weak.toF [0,1,4,5,15,16,26,27,30,31,32] [900000,900001,900002,900003] [] ?_;simp[go_sem,f1S,f3S,hpT,tabV,zdp];exact zas I J N T
theorem f6_3(t:GTrans)(wx wy:List Int)(I J N:Nat)(T:List (List GW))(ord:List Nat)(i k idx q:Nat)(w:GW):Weak (f6S t wx wy I J N T ord i k idx q w) (f3S t wx wy I J N T ord i k idx):=by refine Weak.toF [0,1,4,5,15,16,26,27,30,31,32] [900000,900001,900002,900003] [] ?_;simp[go_sem,f6S,f3S,hpT,tabV,zdp];exact zas I J N T
section
variable {t:GTrans} {M:Meas t.ring} {c:Nat} (fo:fillOk t M c) {wx wy:List Int} {I J N:Nat} (hI:I=wx.length+1) (hJ:J=wy.length+1) (hN:N=t.st.toNat) (lI:I<=1000) (lJ:J<=1000)
include fo hI hJ hN lI lJ
theorem ydg{i k idx q B:Nat}{T:List (List GW)}{ord:List Nat}(hi:i<I)(hk:k<J)(hx:idx<ord.length)(hq:ord[idx]=q)(hqN:q<N)(h:zcf t.ring (plN wx wy) t.st.toNat T)(hv:vbT M B T)(hl:B+sLv c t.arcs<=M.lim)(A:FA)(R:Exit->St->Option FA->Prop)
  (hn:∀ ex,ex=.normal\/ex=.exit 5->∀ s,Weak s (f3S t wx wy I J N (stT t.ring wx wy t.arcs i k T q) ord i k idx)->R ex s (some A)) :
  MR P 104 flB6.er (f3S t wx wy I J N T ord i k idx) (some A) R:=by
 have hlen:T.length=I*J:=by rw[h.1,hI,hJ]
 have hrow:∀ l∈T,l.length=N:=fun l hl=>by rw[(h.2 l hl).2,hN]
 have hwv:=hv.at fo.hr (i*J+k) q;have hst:stT t.ring wx wy t.arcs i k T q=if (T.getD (i*J+k) []).getD q t.ring.zero=t.ring.zero then T else t.arcs.foldl (arT t.ring wx wy i k q ((T.getD (i*J+k) []).getD q t.ring.zero)) T:=by unfold stT;rw[hJ]
 rw[hst]at hn;refine f3_a t wx wy I J N T ord i k idx A R hx fun s hw=>MR.weak hw ?_;rw[hq];refine f3_b t wx wy I J N T ord i k idx A R hi hk hlen hrow hqN fun s hw=>MR.weak hw ?_;generalize (T.getD (i*J+k) []).getD q t.ring.zero=w at *
 refine f3_c t wx wy I J N T ord i k idx A R ((fo.mp.smP (by unfold sLv at hl;omega) hwv.1 hwv.2).mono (by omega)) (fun hz s hw=>?_) (fun hz s hw=>MR.weak hw ?_)
 ·rw[yl0 hz]at hn;exact hn _ (.inr rfl) s (hw.trans (f6_3 _ _ _ _ _ _ _ _ _ _ _ _ _))
 ·rw[yl1 hz]at hn;refine f3_d t wx wy I J N T ord i k idx A R hJ lI lJ fo.al (fun x hx=>?_) fun s hw=>hn _ (.inl rfl) s (hw.trans (f1_3 _ _ _ _ _ _ _ _ _ _ _ _ _ _));subst hI hJ hN;exact ydb fo (by omega) (by omega) h hv hwv hl x hx
theorem ydh{i k B:Nat}{T:List (List GW)}{ord:List Nat}(hi:i<I)(hk:k<J)(ho:∀ q∈ord,q<N)(ol:ord.length<=1000)(h:zcf t.ring (plN wx wy) t.st.toNat T)(hv:vbT M B T)(hl:B+ord.length*sLv c t.arcs<=M.lim)(A:FA){s:St}(hw:Weak s (f3S t wx wy I J N T ord i k 0)) :
  MR P 104 (GC.loop g.od).er s (some A) fun ex s B=>ex=.exit 4/\B=some A/\Weak s (f3S t wx wy I J N (plT t.ring wx wy t.arcs ord i k T) ord i k ord.length):=by
 refine MR.gloop (I:=fun n s B=>∃ x,x<=ord.length/\n=ord.length - x/\Weak s (f3S t wx wy I J N (plT t.ring wx wy t.arcs (ord.take x) i k T) ord i k x)/\B=some A) ord.length ⟨0,by omega,by omega,hw,rfl⟩ ?_;rintro n0 s B ⟨x,hx,rfl,hw,rfl⟩;refine MR.weak hw ?_;generalize hR:(fun(ex:Exit) (s:St) (B:Option FA)=>(ex=.normal->∃ m,m<ord.length - x/\∃ x,x<=ord.length/\m=ord.length - x/\Weak s (f3S t wx wy I J N (plT t.ring wx wy t.arcs (ord.take x) i k T) ord i k x)/\B=some A)/\(ex ≠ .normal->ex=.exit 4/\B=some A/\Weak s (f3S t wx wy I J N (plT t.ring wx wy t.arcs ord i k T) ord i k ord.length)))=R;have hst:∀ h:x<ord.length,plT t.ring wx wy t.arcs (ord.take (x+1)) i k T=stT t.ring wx wy t.arcs i k (plT t.ring wx wy t.arcs (ord.take x) i k T) ord[x]:=fun h=>by unfold plT;rw[yls h,ymp];rfl
 have r1:∀ h:x<ord.length,∀ s,Weak s (f3S t wx wy I J N (stT t.ring wx wy t.arcs i k (plT t.ring wx wy t.arcs (ord.take x) i k T) ord[x]) ord i k (x+1))->R .normal s (some A):=fun h s hw=>by subst hR;rw[<- hst h]at hw;exact⟨fun _=>⟨ord.length - (x+1),by omega,x+1,by omega,rfl,hw,rfl⟩,fun h=>absurd rfl h⟩
 have r2:x=ord.length->∀ s,Weak s (f3S t wx wy I J N (plT t.ring wx wy t.arcs (ord.take x) i k T) ord i k x)->R (.exit 4) s (some A):=fun h s hw=>by subst hR;refine⟨fun h=>(by cases h),fun _=>⟨rfl,rfl,?_⟩⟩;rw[h,ym4]at hw;exact hw
 clear hR hw hst;obtain⟨k1,k2⟩:=z3l fo (i:=i) (k:=k) (by omega) (by omega) (ord:=ord.take x) h hv;rw[yms,yne hx]at k2;generalize plT t.ring wx wy t.arcs (ord.take x) i k T=Tx at *
 rw[ygo];unfold flB9 flB8;by_cases hlt:x<ord.length
 ·have r3:=r1 hlt;clear r1 r2;have e1:=i64s x (by omega);have hlx:B+x*sLv c t.arcs+sLv c t.arcs<=M.lim:=by have:=ylw (sLv c t.arcs) (ypf hlt);rw[ym9]at this;omega
  have hA:MR P 104 flB6.er (f3S t wx wy I J N Tx ord i k x) (some A) fun ex s B=>(exB 5 ex=.normal->MR P 104 flB7.er s B R)/\(exB 5 ex ≠ .normal->R (exB 5 ex) s B):=by
   refine ydg fo hI hJ hN lI lJ hi hk hlt rfl (ho _ (yl4 hlt)) k1 k2 hlx A _ fun ex hex s hw=>?_;have he:exB 5 ex=.normal:=by rcases hex with rfl|rfl<;>rfl
   refine⟨fun _=>MR.weak hw (MR.of_vm ?_),fun h=>absurd he h⟩;simp[flB7,f3S,go_sem,hpT,tabV,e1];refine r3 _ (Weak.toF [0,1,4,5,15,16,26,27,30,31,32] [900000,900001,900002,900003] [] ?_);simp[go_sem,f3S,hpT,tabV];exact zas I J N _
  refine MR.gseq ?_;generalize flB6=FA0 at *
  simp[f3S,go_sem,hlt];refine MR.gseq' (MR.gcond (t:=true) (by simp[go_sem,hlt]) (fun _=>MR.gnop ⟨fun _=>?_,fun h=>absurd rfl h⟩) (fun h=>(by cases h)));refine MR.gseq' (MR.gblk ?_);refine MR.weak ?_ hA;refine Weak.toF [0,1,4,5,15,16,26,27,30,31,32] [900000,900001,900002,900003] [] ?_;simp[go_sem,f3S,hpT,tabV];exact zas I J N Tx
 ·have hx':x=ord.length:=by omega
  have r3:=r2 hx';clear r1 r2;refine MR.gseq ?_;generalize flB6=FA0 at *
  generalize flB7=FZ0 at *
  simp[f3S,go_sem,hlt];refine MR.gseq' (MR.gcond (t:=false) (by simp[go_sem,hlt]) (fun h=>(by cases h)) (fun _=>MR.gext ⟨fun h=>(by cases h),fun _=>r3 _ ?_⟩));refine Weak.toF [0,1,4,5,15,16,26,27,30,31,32] [900000,900001,900002,900003] [] ?_;simp[go_sem,f3S,hpT,tabV];exact zas I J N Tx
end
end Go.Ab
