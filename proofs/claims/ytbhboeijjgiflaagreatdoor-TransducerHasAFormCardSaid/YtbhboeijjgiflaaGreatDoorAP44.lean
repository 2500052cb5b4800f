/-
Proofs for the law TransducerHasAForm, part 44. Conditions: none.
-/
import Derived.Test.YtbhboeijjgiflaaGreatDoorAP41
import Derived.Test.YtbhboeijjgiflaaGreatDoorAP43
import Derived.Test.YtbhboeijjgiflaaGreatDoorAP36
import Derived.Test.YtbhboeijjgiflaaGreatDoorAP38
import Derived.Test.YtbhboeijjgiflaaGreatDoorAP42
import Derived.Test.YtbhboeijjgiflaaGreatDoorAP29
set_option maxRecDepth 100000
set_option maxHeartbeats 4000000
set_option linter.all false
namespace Go.Ab
open Enc (enc)
attribute [local go_sem] zal Opd.slots
theorem zri (t:GTrans) (N:Nat) (hst:t.st=N) (hN:N<=64) (hal:t.arcs.length<=4096) (hfit:∀ x∈t.arcs,x.fit N):∃ s,kaH (t.arcs.filter emF) N s.2.length s/\Sp P F.fq [enc t] (.pure (.sl (ens s.2))):=by
 have hfitE:∀ x∈t.arcs.filter emF,x.fit N:=fun x hx=>hfit x (yk1.1 hx).1;have hend:∃ s',kaL (t.arcs.filter emF) (N+1) 0 (inL t.arcs N,ouL (inL t.arcs N) N)=s'/\kaH (t.arcs.filter emF) N s'.2.length s':=z18 hfitE (N+1) 0 (z17 t.arcs N) (by omega);refine ⟨kaL (t.arcs.filter emF) (N+1) 0 (inL t.arcs N,ouL (inL t.arcs N) N),by obtain ⟨s',e,h⟩:=hend; rw [e]; exact h,?_⟩;have hinit:=z17 t.arcs N;have hEl:(t.arcs.filter emF).length<=4096:=yj6 (yjp _ _) hal;refine Sp.vz c.fq fun _=>?_;simp [g.fq,go_sem,hst];refine ⟨by omega,?_⟩
 refine zai (S:=fun k:Nat=>mkSt [(3,.own 1 0 0 N),(4,.own 2 0 0 ((t.arcs.take k).filter emF).length),(17,.p (.sl (ens t.arcs))),(18,.p (.int .i64 t.arcs.length)),(19,.p (.int .i64 k))] [(1,⟨1,avs (inL (t.arcs.take k) N)⟩),(2,⟨12,avs ((t.arcs.take k).filter emF)⟩)]) (I:=fun k=>k<=t.arcs.length) (m:=fun k=>t.arcs.length - k) 0
  ((Weak.nilSlot (t:=4) (s:=77) (sz:=12) rfl).trans (Weak.to [3,4,17,18,19] [((15,0),1),((77,0),2)] (by simp [mkSt,go_sem,yal]))) (by omega) ?_
 rintro k h1 R hn hr hx;have e1:=i64s k (by omega);simp [g.px,mkSt,go_sem];refine ⟨fun hk=>zae hk ?_,fun hk=>hx _ _ ?_⟩
 ·have hf:=hfit _ (yj2 hk);have hil:=zqm (t.arcs.take k) N;have htk:t.arcs.take (k+1)=t.arcs.take k++[t.arcs[k]]:=yj7 hk;have hfle:((t.arcs.take k).filter emF).length<=4096:=by
   have h1:=yjp emF (t.arcs.take k);have h2:(t.arcs.take k).length<=t.arcs.length:=by rw [yk6]; omega
   omega
  obtain ⟨_,t1,t2⟩:=hf;have htl:t.arcs[k].t.toNat<(inL (t.arcs.take k) N).length:=by omega
  refine ⟨fun a=>⟨fun b=>?_,fun b=>?_⟩,fun a=>?_⟩
  ·have he:emF t.arcs[k]=true:=by simp [emF,a,b]
   have hfl:(t.arcs.take (k+1)).filter emF=(t.arcs.take k).filter emF++[t.arcs[k]]:=by rw [htk,yjy]; simp [he]
   have hin:=yak (A:=t.arcs.take k) he (hfit _ (yj2 hk));rw [<- htk] at hin;have hv:(inL (t.arcs.take k) N)[t.arcs[k].t.toNat]=(inL (t.arcs.take k) N).getD t.arcs[k].t.toNat 0:=by rw [yj4,yj8 htl]; rfl
   have hg:=zqn (A:=t.arcs.take k) (N:=N) (y:=t.arcs[k].t.toNat) (by omega);have hk2:kcn ((t.arcs.take k).filter emF) ((t.arcs[k].t.toNat:Nat):Int) (fun _=>true)<=4096:=by unfold kcn;exact yj6 (yjp _ _) hfle
   have hb:0<=(inL (t.arcs.take k) N).getD t.arcs[k].t.toNat 0/\(inL (t.arcs.take k) N).getD t.arcs[k].t.toNat 0<=4096:=by rw [hg]; omega
   have ew:IntKind.i64.wrap ((inL (t.arcs.take k) N).getD t.arcs[k].t.toNat 0+1)=(inL (t.arcs.take k) N).getD t.arcs[k].t.toNat 0+1:=i64w (by omega) (by omega);refine ⟨⟨t1,by omega,by omega⟩,zae htl ⟨⟨t1,by omega,by omega⟩,zae htl ⟨by omega,?_⟩⟩⟩;rw [hv];generalize (inL (t.arcs.take k) N).getD t.arcs[k].t.toNat 0=z at *
   refine hn (k+1) _ (Weak.to [3,4,17,18,19] [((1,0),1),((41,0),2)] ?_) (by omega) (by omega);rw [hfl,hin];simp [mkSt,go_sem,e1,ew]
  ·have he:emF t.arcs[k]=false:=by simp [emF,b]
   have hfl:(t.arcs.take (k+1)).filter emF=(t.arcs.take k).filter emF:=by rw [htk,yjy]; simp [he]
   have hin:=z71 (A:=t.arcs.take k) (N:=N) he;rw [<- htk] at hin;refine hn (k+1) _ (Weak.to [3,4,17,18,19] [((1,0),1),((2,0),2)] ?_) (by omega) (by omega);rw [hfl,hin];simp [mkSt,go_sem,e1]
  ·have he:emF t.arcs[k]=false:=by simp [emF,a]
   have hfl:(t.arcs.take (k+1)).filter emF=(t.arcs.take k).filter emF:=by rw [htk,yjy]; simp [he]
   have hin:=z71 (A:=t.arcs.take k) (N:=N) he;rw [<- htk] at hin;refine hn (k+1) _ (Weak.to [3,4,17,18,19] [((1,0),1),((2,0),2)] ?_) (by omega) (by omega);rw [hfl,hin];simp [mkSt,go_sem,e1]
 ·have hk':k=t.arcs.length:=by omega
  subst hk';clear hn hr hx;simp [go_sem];have hIl:=zqm t.arcs N;generalize hI:inL t.arcs N=I at *
  generalize hE:t.arcs.filter emF=E at *
  refine zai (S:=fun k:Nat=>mkSt [(3,.own 1 0 0 N),(4,.own 2 0 0 E.length),(7,.own 4 0 0 (ouL I k).length),(43,.own 1 0 0 N),(44,.p (.int .i64 N)),(45,.p (.int .i64 k))] [(1,⟨1,avs I⟩),(2,⟨12,avs E⟩),(4,⟨1,avs (ouL I k)⟩)]) (I:=fun k=>k<=N) (m:=fun k=>N - k) 0
   ((Weak.nilSlot (t:=7) (s:=77) (sz:=1) rfl).trans (Weak.to [3,4,7,43,44,45] [((1,0),1),((2,0),2),((77,0),4)] (by simp [mkSt,go_sem,ouL]))) (by omega) ?_
  rintro k h1 R hn hr hx;have e1:=i64s k (by omega);simp [g.py,mkSt,go_sem];have hol:=z9v I k;refine ⟨fun hk=>⟨⟨hk,by omega⟩,zae (show k<I.length by omega) ?_⟩,fun hk=>hx _ _ ?_⟩
  ·have hgk:I.getD k 0=I[k]'(by omega):=by rw [yj4,yj8 (by omega)]; rfl
   refine ⟨fun hz=>⟨by omega,hn (k+1) _ (Weak.to [3,4,7,43,44,45] [((1,0),1),((2,0),2),((55,0),4)] ?_) (by omega) (by omega)⟩,fun hz=>hn (k+1) _ (Weak.to [3,4,7,43,44,45] [((1,0),1),((2,0),2),((4,0),4)] ?_) (by omega) (by omega)⟩
   ·rw [zv6,hgk,yj1 hz]; simp [mkSt,go_sem,e1]
   ·rw [zv6,hgk,yj0 hz]; simp [mkSt,go_sem,e1]
  ·have hk':k=N:=by omega
   rw [hk'];clear hn hr hx;simp [go_sem];clear hol h1 e1;clear hk' hk k;clear hend;generalize hsf:kaL E (N+1) 0 (I,ouL I N)=sf
   refine zai (S:=fun a:Nat × (List Int × List Int)=>mkSt [(3,.own 1 0 0 N),(4,.own 2 0 0 E.length),(7,.own 4 0 0 a.2.2.length),(10,.p (.int .i64 a.1))] [(1,⟨1,avs a.2.1⟩),(2,⟨12,avs E⟩),(4,⟨1,avs a.2.2⟩)])
    (I:=fun a=>kaH E N a.1 a.2/\kaL E (N+1 - a.1) a.1 a.2=sf) (m:=fun a=>N+1 - a.1) (0,(I,ouL I N)) (Weak.to [3,4,7,10] [((1,0),1),((2,0),2),((4,0),4)] (by simp [mkSt,go_sem])) ⟨hinit,hsf⟩ ?_
   rintro ⟨i,s⟩ ⟨hk,hl⟩ R hn hr hx;simp only at hk hl;have hcl:=hk.c.le;have hle:=hk.le;have e1:=i64s i (by omega);obtain ⟨f,hf⟩:∃ f,N+1 - i=f+1:=⟨N - i,by omega⟩;rw [hf] at hl;simp only [kaL] at hl;simp [g.p9,mkSt,go_sem];refine ⟨fun hi=>?_,fun hi=>hx _ _ ?_⟩
   ·rw [yj1 hi] at hl;have hsp:s.2=s.2.take i++s.2[i]::s.2.drop (i+1):=by rw [ym8,yll]
    have hm0:kaM E N (s.2.take i) s.2[i] [] E s:=⟨hk.c,⟨_,hsp⟩,fun y hy=>by rw [hk.cnt y hy]; simp [kcn]⟩
    refine zai (S:=fun a:Nat × (List Int × List Int)=>mkSt [(3,.own 1 0 0 N),(4,.own 2 0 0 E.length),(7,.own 4 0 0 a.2.2.length),(10,.p (.int .i64 i)),(63,.own 2 0 0 E.length),(64,.p (.int .i64 E.length)),(65,.p (.int .i64 a.1))] [(1,⟨1,avs a.2.1⟩),(2,⟨12,avs E⟩),(4,⟨1,avs a.2.2⟩)])
     (I:=fun a=>a.1<=E.length/\a.2=(E.take a.1).foldl (kaA s.2[i]) s/\kaM E N (s.2.take i) s.2[i] (E.take a.1) (E.drop a.1) a.2) (m:=fun a=>E.length - a.1) (0,s) (Weak.to [3,4,7,10,63,64,65] [((1,0),1),((2,0),2),((4,0),4)] (by simp [mkSt,go_sem])) ⟨by omega,rfl,by simpa using hm0⟩ ?_
    rintro ⟨x,u⟩ ⟨hx1,hu,hM⟩ R2 hn2 hr2 hx2;simp only at hx1 hu hM;have e2:=i64s x (by omega);simp [g.p8,mkSt,go_sem];refine ⟨fun hxl=>?_,fun hxl=>hx2 _ _ ?_⟩
    ·have hPl:(s.2.take i).length=i:=by rw [yk6]; omega
     obtain ⟨post,hpre⟩:=hM.pre;have hiu:i<u.2.length:=by rw [hpre]; simp [hPl]
     have hui:u.2[i]=s.2[i]:=by
      have:u.2[i]?=some s.2[i]:=by rw [hpre,ym2 (by omega),hPl,Nat.sub_self]; rfl
      rw [yj8 hiu] at this; exact Option.some.inj this
     have htk:E.take (x+1)=E.take x++[E[x]]:=yj7 hxl;have hdr:E.drop x=E[x]::E.drop (x+1):=by rw [ym8]
     have hfx:=hfitE _ (yj2 hxl);rw [hdr] at hM;have hM2:=hM.step (by rw [<- hdr,yll]) hfx;have hu2:kaA s.2[i] u E[x]=(E.take (x+1)).foldl (kaA s.2[i]) s:=by rw [htk,yjr,<- hu]; rfl
     rw [<- htk] at hM2;refine ⟨hxl,zae hxl ⟨hiu,zae hiu ?_⟩⟩;rw [hui];refine ⟨fun he=>?_,fun he=>?_⟩
     ·obtain ⟨_,t1,t2⟩:=hfx;have hul:=hM.c.len;have htl:E[x].t.toNat<u.1.length:=by omega
      have hv:u.1[E[x].t.toNat]=u.1.getD E[x].t.toNat 0:=by rw [yj4,yj8 htl]; rfl
      have hcnt:=hM.cnt E[x].t.toNat (by omega);have b1:kcn (E.take x) ((E[x].t.toNat:Nat):Int) (zc3 (s.2.take i++[s.2[i]]))<=4096:=by unfold kcn;refine yj6 (yjp _ _) ?_;rw [yk6]; omega
      have b2:kcn (E[x]::E.drop (x+1)) ((E[x].t.toNat:Nat):Int) (zc3 (s.2.take i))<=4096:=by unfold kcn;refine yj6 (yjp _ _) ?_;rw [<- hdr,List.length_drop]; omega
      have ew:IntKind.i64.wrap (u.1.getD E[x].t.toNat 0 - 1)=u.1.getD E[x].t.toNat 0 - 1:=i64w (by omega) (by omega);have hka:kaA s.2[i] u E[x]=(u.1.set E[x].t.toNat (u.1.getD E[x].t.toNat 0 - 1),if u.1.getD E[x].t.toNat 0 - 1=0 then u.2++[E[x].t] else u.2):=by unfold kaA; rw [yj1 he]
      rw [hka] at hM2 hu2;have hcl2:=hM2.c.le;have hul2:=hM.c.le;refine ⟨⟨t1,by omega,by omega⟩,zae htl ⟨⟨t1,by omega,by omega⟩,zae htl ⟨⟨t1,by omega,by omega⟩,?_⟩⟩⟩;rw [zck];refine ⟨_,by rw [yku (by simp [avs,ens]; omega)],?_⟩;rw [hv,ew];generalize u.1.getD E[x].t.toNat 0 - 1=z at *
      simp [go_sem];refine ⟨fun hz=>⟨by omega,?_⟩,fun hz=>?_⟩
      ·rw [yj1 hz] at hM2 hu2;refine hn2 (x+1,(u.1.set E[x].t.toNat z,u.2++[E[x].t])) _ (Weak.to [3,4,7,10,63,64,65] [((1,0),1),((2,0),2),((93,0),4)] (by simp [mkSt,go_sem,e2])) ⟨by show x+1<=E.length; omega,hu2,hM2⟩ (by show E.length - (x+1)<E.length - x; omega)
      ·rw [yj0 hz] at hM2 hu2;refine hn2 (x+1,(u.1.set E[x].t.toNat z,u.2)) _ (Weak.to [3,4,7,10,63,64,65] [((1,0),1),((2,0),2),((4,0),4)] (by simp [mkSt,go_sem,e2])) ⟨by show x+1<=E.length; omega,hu2,hM2⟩ (by show E.length - (x+1)<E.length - x; omega)
     ·have hk1:kaA s.2[i] u E[x]=u:=by unfold kaA; rw [yj0 he]
      rw [hk1] at hM2 hu2;refine hn2 (x+1,u) _ (Weak.to [3,4,7,10,63,64,65] [((1,0),1),((2,0),2),((4,0),4)] (by simp [mkSt,go_sem,e2])) ⟨by show x+1<=E.length; omega,hu2,hM2⟩ (by show E.length - (x+1)<E.length - x; omega)
    ·have hxe:x=E.length:=by omega
     subst hxe;rw [yjq] at hu;subst hu;simp [go_sem,e1];refine hn (i+1,E.foldl (kaA s.2[i]) s) _ (Weak.to [3,4,7,10] [((1,0),1),((2,0),2),((4,0),4)] (by simp [mkSt,go_sem])) ⟨?_,?_⟩ (by show N+1 - (i+1)<N+1 - i; omega)
     ·have:=hk.next hfitE hi
      rwa [show s.2.getD i 0=s.2[i] by rw [yj4,yj8 hi]; rfl] at this
     ·rw [show N+1 - (i+1)=f by omega,<- hl,show s.2.getD i 0=s.2[i] by rw [yj4,yj8 hi]; rfl]
   ·rw [yj0 (by omega)] at hl;rw [<- hl];simp [go_sem]
theorem zlh {t:GTrans} (ok:t.ok):∀ x∈t.nf.arcs,x.fit t.st.toNat:=fun x hx=>by obtain ⟨a1,a2,a3,a4,a5,a6,a7,a8,a9⟩:=(zwc ok).arcs x hx;have e:t.nf.st=t.st:=rfl;have:=ok.st1;exact ⟨⟨a1,by omega⟩,a3,by omega⟩
theorem zsa (t:GTrans) (n:Nat) (hn:n<=90) (hn1:3<=n) (h:t.sm n) (hl:t.arcs.length<=19) (ok:t.ok):Sp P F.ax [enc t] (.pure (.bool (emC t))):=by
 have kn:=zhp t n hn hn1 h hl (by have:=ok.il; have:=ok.st2; omega) (by have:=ok.fl; have:=ok.st2; omega);rw [yj1 ok,yj1 ok] at kn;have hst:t.nf.st=(t.st.toNat:Nat):=by have:=ok.st1; show t.st=_; omega
 have hal:=zt8 t;obtain ⟨s,hk,hs⟩:=zri t.nf t.st.toNat hst (by have:=ok.st2; omega) (by omega) (zlh ok);have hsp:=(z16 (t:=t.nf) (zlh ok) hk).1;have hb:decide ((s.2.length:Int)<t.st)=emC t:=by
  have hst1:=ok.st1;have e:((s.2.length:Int)<t.st) ↔ s.2.length<t.nf.st.toNat:=by show _ ↔ s.2.length<t.st.toNat; omega
  unfold emC;cases hc:cycF t.st.toNat (emP t.nf.arcs)
  ·rw [decide_eq_false_iff_not]; intro h'; have:=hsp.1 (e.1 h'); rw [show t.nf.st.toNat=t.st.toNat from rfl,hc] at this; cases this
  ·rw [decide_eq_true_iff]; exact e.2 (hsp.2 hc)
 refine Sp.vz c.ax fun _=>?_;simp [g.ax,go_sem];refine zab kn ?_;simp [go_sem];refine zab hs ?_;simp [go_sem];exact hb
theorem z1v (t:GTrans) (n:Nat) (hn:n<=90) (hn1:3<=n) (h:t.sm n) (hl:t.arcs.length<=19) (li:t.ini.length<=1000000) (lf:t.fin.length<=1000000) (ok:¬ t.ok):Sp P F.ax [enc t] (.pure (.bool false)):=by have kn:=zhp t n hn hn1 h hl li lf;rw [yj0 ok,yj0 ok] at kn;refine Sp.vz c.ax fun _=>?_;simp [g.ax,go_sem];refine zab kn ?_;simp [go_sem]
theorem zk7 (l:List GW) (hl:l.length<=2147483648):Sp P F.bk [.sl (ens l)] (.fresh 8 (ens l)):=by
 cases l with
 | nil =>
  refine Sp.nilcase ?_ ?_
  ·refine Sp.vz c.bk fun _=>?_;simp [g.bk,go_sem]
  ·refine Sp.vz c.bk fun _=>?_;simp [g.bk,go_sem,LIM]
 | cons x l =>
  refine Sp.vz c.bk fun _=>?_;simp at hl;simp [g.bk,go_sem,LIM,hl]
theorem yb5:g.fk=.seq (.reg [⟨some 3,.box 8 (.t 0),none⟩,⟨some 6,.alloc 8 (.agg [.p (.bool false),.nil,.nil,.p (.int .i64 0),.p (.bool false),.p (.int .u64 0),.nil,.nil]),none⟩,⟨some 7,.mv (.c (.p (.int .i64 0))),none⟩] [[0],[],[7]]) z8g:=rfl
theorem yht {σ : Sg} {I J N:Nat} (hJ:0<J) (h0 : σ 91 0=(900003,0)) (h1:∀ g,1<=g -> σ 800003 g=(900003,g)):((famU I J N).set 0 (some ⟨1,((List.range J).map (rowU N 0)).set 0 (.own 91 0 0 N)⟩)).map (Option.map (subO σ))=famR I J N:=by
 refine List.ext_getElem? fun i=>?_;rw [yjh,List.getElem?_set];by_cases hi:i<I
 ·rw [zw3 hi];by_cases h:i=0
  ·subst h;rw [yj1 rfl,yj1 (by simp [famU]; omega)];simp only [yl4,subO,zbu,Nat.zero_mul]
   congr 3
   refine List.ext_getElem? fun j=>?_;rw [yjh,List.getElem?_set];by_cases hj:j<J
   ·rw [yjh (f:=rowV N 0),yjs hj];by_cases h':j=0
    ·subst h';rw [yj1 rfl,yj1 (by simp; omega)];simp [Go.Ab.sub,h0,rowV]
    ·rw [yj0 (yka h'),yjh,yjs hj];simp [Go.Ab.sub,h1 j (by omega),rowV,rowU]
   ·rw [yk8 (by simp; omega:(List.map (rowV N 0) (List.range J)).length<=j),yj0 (fun e=>hj (by omega)),yk8 (by simp; omega:(List.map (rowU N 0) (List.range J)).length<=j)]; rfl
  ·rw [yj0 (yka h)];unfold famU;rw [yjh,yjs hi];simp only [yl4,subO,zbu,yke]
   congr 3
   refine ykc fun j _=>?_;have:1<=i*J:=ylg (by omega) hJ;simp only [ykl,Go.Ab.sub,rowU,rowV,h1 (i*J+j) (by omega)]
 ·rw [yk8 (by simp [famR]; omega:(famR I J N).length<=i)];by_cases h:0=i
  ·subst h;rw [yj1 rfl,yj0 (by simp [famU]; omega)]; rfl
  ·rw [yj0 h,yk8 (by simp [famU]; omega:(famU I J N).length<=i)]; rfl
theorem yhi {σ : Sg} (h:∀ g,σ 800002 g=(900002,g)) (J I:Nat):subL σ ((List.range I).map (outU J))=(List.range I).map (outV J):=by rw [zbu,yke];refine ykc fun j _=>?_;simp only [ykl,outU,outV,Go.Ab.sub,h]
def w1S (t:GTrans) (wx wy:List Int) (ord:List Nat):St :=
 ⟨[(1,.p (.sl (ens wx))),(2,.p (.sl (ens wy))),(3,.ptr 3 0 0 0),(6,.ptr 6 0 0 0),(9,.p (.sl (ens (toI ord))))],[(3,[some ⟨8,[.p (enc t)]⟩]),(6,[some ⟨8,[z8]⟩]),(DEAD,[none])]⟩
def w2S (t:GTrans) (wx wy:List Int) (I J N:Nat) (T:List (List GW)) (ord:List Nat):St :=
 ⟨[(1,.p (.sl (ens wx))),(2,.p (.sl (ens wy))),(3,.ptr 3 0 0 0),(6,.ptr 6 0 0 0),(9,.p (.sl (ens (toI ord)))),(10,.ptr 900000 0 0 0)],hpT t wx wy I J N T++[(3,[some ⟨8,[.p (enc t)]⟩]),(6,[some ⟨8,[z8]⟩]),(DEAD,[none])]⟩
section
variable {t:GTrans} {wx wy:List Int} {I J N:Nat} {ord:List Nat} (hst:t.st=(N:Int)) (hN:N<=1000) (hI:I=wx.length+1) (hJ:J=wy.length+1) (lI:I<=1000) (lJ:J<=1000) (R:Exit->St->Option FA->Prop)
include hst hN hI hJ lI lJ
theorem z8h {A:Option FA} (hn:∀ s,Weak s (u2S t wx wy I J N ord I)->MR P 132 zy7.er s A R):MR P 132 zy6.er (w1S t wx wy ord) A R:=by
 have e1:IntKind.i64.wrap ((wx.length:Int)+1)=(I:Int):=(i64w (by omega) (by omega)).trans (by omega);unfold zy6 yb8 wtA5;refine MR.gseq ?_;generalize zy7=W at *
 generalize hL:GC.loop g.nc=L at *
 simp [w1S,go_sem];refine MR.gseq ?_;subst hL;simp [go_sem,e1];refine z8m (t:=t) (wx:=wx) (wy:=wy) (I:=I) (J:=J) (N:=N) (ord:=ord) hst hN lJ lI hJ ((Weak.nilCell (s0:=52) (g0:=0) (i:=10) (s:=800001) (sz:=1) rfl).trans (Weak.planTo' [1,2,3,6,9,10,55,56] [(3,[(3,0)]),(6,[(6,0)]),(800000,[(52,0)]),(800001,[(800001,0)]),(800002,[]),(800003,[])] ?_ (fun σ => σ 3 0=(3,0) /\ σ 6 0=(6,0) /\ σ 52 0=(800000,0) /\ σ 800001 0=(800001,0)) ?_ ?_)) ?_
 ·simp [zh3,zp2,zgi,PINB,DEAD,St.alloc,St.put,St.setObj]
 ·simp [sgP,zib,zfn,St.site,look,St.alloc,St.put,St.setObj]
 ·rintro σ ⟨s1,s2,s3,s4⟩;simp [hpP,catS,Go.Ab.sub,subO,subL,St.get,look,St.site,u2S,s1,s2,s3,s4,tabU,z8,zlc,St.alloc,St.put,St.setObj,AV.cells];exact ⟨rfl,rfl,rfl⟩
 ·simp [go_sem];exact hn _ (Weak.refl _)
theorem yca {T:List (List GW)} (hini:t.ini.length=N) (hT:T=t.ini::List.replicate (I*J - 1) (List.replicate N t.ring.zero)) (hn:∀ s,Weak s (w2S t wx wy I J N T ord)->MR P 132 zy8.er s none R):MR P 132 zy7.er (u2S t wx wy I J N ord I) none R:=by
 have i1:0<I:=by omega
 have j1:0<J:=by omega
 have e1:((famU I J N)[0]?).getD none=some ⟨1,(List.range J).map (rowU N 0)⟩:=by unfold famU; rw [yjh,yjs i1]; simp
 have r1:(List.map (outU J) (List.range I))[0]?=some (outU J 0):=by rw [yjh,yjs i1]; rfl
 have r2:(List.map (rowU N 0) (List.range J))[0]?=some (rowU N 0 0):=by rw [yjh,yjs j1]; rfl
 unfold zy7;refine MR.gseq ?_;generalize zy8=W at *
 simp [u2S,go_sem,tabU,i1];rw [zck];refine ⟨_,r1,?_⟩;simp [go_sem,outU];refine zct (zk7 t.ini (by omega)) (by simp [go_sem]) ⟨zea _ _ rfl,by decide,by simp [ens,LIM]; omega⟩ _ rfl ?_;have hd:(famC (zTbl t N (I*J))).drop 1=famC (List.replicate (I*J - 1) (List.replicate N t.ring.zero)):=by unfold famC zTbl;rw [<- List.map_drop,ym5]
 have hTf:famC T=some ⟨8,avs t.ini⟩::famC (List.replicate (I*J - 1) (List.replicate N t.ring.zero)):=by rw [hT]; rfl
 have fin:∀ hp:List Site,hp=[(800002,(famU I J N).set 0 (some ⟨1,(List.map (rowU N 0) (List.range J)).set 0 (.own 91 0 0 N)⟩)),(91,[some ⟨8,avs t.ini⟩]),(3,[some ⟨8,[.p (enc t)]⟩]),(6,[some ⟨8,[z8]⟩]),(800000,[some ⟨11,[tabU t wx wy I]⟩]),(800001,[some ⟨1,List.map (outU J) (List.range I)⟩]),(800002,famU I J N),(800003,famC (zTbl t N (I*J))),(DEAD,[none])] ->
   Weak ⟨[(1,.p (.sl (ens wx))),(2,.p (.sl (ens wy))),(3,.ptr 3 0 0 0),(6,.ptr 6 0 0 0),(9,.p (.sl (ens (toI ord)))),(10,.ptr 800000 0 0 0)],hp⟩ (w2S t wx wy I J N T ord):=fun hp e=>by
  subst e;refine Weak.planTo' [1,2,3,6,9,10] [(900000,[(800000,0)]),(900001,[(800001,0)]),(900002,[(800002,0)]),(900003,[(91,0),(800003,1)]),(3,[(3,0)]),(6,[(6,0)])] ?_ (fun σ => σ 3 0=(3,0) /\ σ 6 0=(6,0) /\ σ 800000 0=(900000,0) /\ σ 800001 0=(900001,0)/\(∀ g,σ 800002 g=(900002,g)) /\ σ 91 0=(900003,0)/\(∀ g,1<=g -> σ 800003 g=(900003,g))) ?_ ?_
  ·simp [zh3,zp2,zgi,PINB,DEAD]
  ·simp [sgP,zib,zfn,St.site,look];intro g hg;have:¬ g=0:=by omega
   simp [this];omega
  ·rintro σ ⟨s1,s2,s3,s4,s5,s6,s7⟩;simp [hpP,catS,Go.Ab.sub,subO,subL,St.get,look,St.site,w2S,hpT,s1,s2,s3,s4,s6,tabU,tabV,z8,yhi s5,yht j1 s6 s7,hd,zlo,hTf,zpl]
 cases hfl:(ens t.ini).all PV.flat
 ·simp [go_sem,killAll,e1];refine ⟨j1,?_⟩;rw [zck];refine ⟨_,r2,?_⟩;simp [go_sem,hini];exact hn _ (fin _ rfl)
 ·simp [go_sem,e1];refine ⟨j1,?_⟩;rw [zck];refine ⟨_,r2,?_⟩;simp [go_sem,hini];exact hn _ (fin _ rfl)
end
theorem ycb {t:GTrans} {wx wy:List Int} {I J N:Nat} {ord:List Nat} {T T':List (List GW)} (R:Exit->St->Option FA->Prop)
  (hf:HSp P F.jl [.ptr 900000 0 0 0,.p (.sl (ens (toI ord)))] (hpT t wx wy I J N T) (.tup []) (hpT t wx wy I J N T'))
  (hn:∀ s,Weak s (w2S t wx wy I J N T' ord)->MR P 132 wtA9.er s none R):MR P 132 zy8.er (w2S t wx wy I J N T ord) none R:=by
 unfold zy8;refine MR.gseq' (MR.greg (zlj 2 [[],[]] ?_));generalize wtA9=W at *
 simp [w2S,go_sem];refine MIns.cons (zr9 hf ?_ ?_ ?_ ?_ (MIns.nil (hn _ ?_)))
 ·simp [go_sem]
 ·simp [zn6,St.site,look,hpT]
 ·rfl
 ·show (true&&hpOk [900000,900001,900002,900003] (hpT t wx wy I J N T)&&true&&hpOk [900000,900001,900002,900003] (hpT t wx wy I J N _))=true;rw [zo2,zo2]; rfl
 ·refine Weak.toF [1,2,3,6,9,10] [900000,900001,900002,900003] [((3,0),3),((6,0),6)] ?_;simp [go_sem,w2S,hpT,tabV,z8];exact zas I J N T'
def w3S (t:GTrans) (wx wy:List Int) (I J N:Nat) (T:List (List GW)) (p:Nat) (v:GW) (k:Nat):St :=
 ⟨[(3,.ptr 3 0 0 0),(6,.ptr 6 0 0 0),(12,.ptr 12 0 0 0),(110,.own 900003 p 0 N),(111,.p (.int .i64 N)),(112,.p (.int .i64 k))],hpT t wx wy I J N T++[(3,[some ⟨8,[.p (enc t)]⟩]),(6,[some ⟨8,[z8]⟩]),(12,[some ⟨8,[.p (enc v)]⟩]),(DEAD,[none])]⟩
theorem z8i {t:GTrans} {M:Meas t.ring} (mp:MeasP M) (hr:t.ring.ok=true) {B z:Nat} {wx wy:List Int} {I J N:Nat} {T:List (List GW)} {p:Nat} (hp:p<T.length) {row:List GW} (hrow:T.getD p []=row) (hl:row.length=N) (hf:t.fin.length=N) (lN:N<=1000)
  (vr:vb M B row) (vf:vb M z t.fin) (hlim:B+z+1+N<=M.lim) {Q:Exit->St->Prop} {ks:List Kt} {st:St} (hw:Weak st (w3S t wx wy I J N T p t.ring.zero 0))
  (hx:znf P 132 Q (zeb 5 ks) 5 (w3S t wx wy I J N T p (sumW t.ring row t.fin) N)):vL P 132 Q g.ne ks st:=by
 refine zai (S:=fun k:Nat=>w3S t wx wy I J N T p (sumN t.ring row t.fin k) k) (I:=fun k=>k<=N) (m:=fun k=>N - k) 0 (by simpa [sumN] using hw) (by omega) ?_;rintro k h1 R hn hr' hx';have e2:=zjg hp;rw [hrow] at e2;by_cases hk:k<N
 ·have e1:=i64s k (by omega);have hkr:k<row.length:=by omega
  have hkf:k<t.fin.length:=by omega
  have hs:=zl1 (r:=t.ring) hkr hkf;have hv:=ztf (M:=M) hr vr vf k (by omega) (by omega);have a1:=vr _ (yj2 hkr);have a2:=vf _ (yj2 hkf);have kt:=mp.timesP (n:=B+z) (by omega) a1.1 a2.1 (M.mono a1.2 (by omega)) (M.mono a2.2 (by omega));have ct:=zbn a1.1 a2.1;have kp:=mp.plusP (n:=B+z+1+k) (by omega) hv.1 ct hv.2 (M.mono (M.times a1.1 a2.1 a1.2 a2.2) (by omega));generalize sumN t.ring row t.fin k=v at *
  simp [g.ne,w3S,go_sem,hk,hpT,tabV,e2];refine ⟨by omega,zae hkr ?_⟩;refine zae hkf ?_;refine zab kt ?_;simp [go_sem];refine zab kp ?_;simp [go_sem,e1];refine hn (k+1) _ (Weak.toF [3,6,12,110,111,112] [900000,900001,900002,900003] [((3,0),3),((6,0),6),((12,0),12)] ?_) (by omega) (by omega);simp [go_sem,w3S,hpT,tabV,z8,hs];exact zas I J N T
 ·have hk':k=N:=by omega
  subst hk';rw [zlb (by omega)];simp [g.ne,w3S,go_sem];refine hx' 5 _ ?_;simpa [w3S,go_sem] using hx
theorem yb9 {t:GTrans} {M:Meas t.ring} (mp:MeasP M) (hr:t.ring.ok=true) {B z:Nat} {wx wy:List Int} {I J N:Nat} {ord:List Nat} {T:List (List GW)} (hI:I=wx.length+1) (hJ:J=wy.length+1) (lI:I<=1000) (lJ:J<=1000) (hlen:T.length=I*J)
  {row:List GW} (hrow:T.getD (wx.length*J+wy.length) []=row) (hl:row.length=N) (hf:t.fin.length=N) (lN:N<=1000) (vr:vb M B row) (vf:vb M z t.fin) (hlim:B+z+1+N<=M.lim) (R:Exit->St->Option FA->Prop)
  (hn:∀ s,retP [(6,some 8),(7,none)] (.pure (.tup [enc (sumW t.ring row t.fin),.int .i64 0])) .ret s->R .ret s none):MR P 132 wtA9.er (w2S t wx wy I J N T ord) none R:=by
 have i1:wx.length<I:=by omega
 have j1:wy.length<J:=by omega
 have hp:wx.length*J+wy.length<T.length:=by rw [hlen]; exact z0y i1 j1
 have e1:=zjf (N:=N) (J:=J) i1;have e2:=zjg hp;have r1:(List.map (outV J) (List.range I))[wx.length]?=some (outV J wx.length):=by rw [yjh,yjs i1]; rfl
 have r2:(List.map (rowV N (wx.length*J)) (List.range J))[wy.length]?=some (rowV N (wx.length*J) wy.length):=by rw [yjh,yjs j1]; rfl
 refine MR.of_vm ?_;unfold wtA9 wtA8 wtA6;generalize hW:wtA7=W;generalize hL:GC.loop g.ne=L;simp [w2S,go_sem,hpT,tabV];refine zab (zfx t.ring) ?_;simp [go_sem,i1,j1];rw [zck];refine ⟨_,r1,?_⟩;simp [go_sem,outV,e1,i1,j1];rw [zck];refine ⟨_,r2,?_⟩;simp [go_sem,rowV,e1,e2];subst hL;simp [go_sem];refine z8i (t:=t) (wx:=wx) (wy:=wy) (I:=I) (J:=J) (T:=T) mp hr hp hrow hl hf lN vr vf hlim (Weak.toF [3,6,12,110,111,112] [900000,900001,900002,900003] [((3,0),3),((6,0),6),((12,0),12)] ?_) ?_
 ·simp [go_sem,w3S,hpT,tabV,z8];exact zas I J N T
 ·subst hW;generalize sumW t.ring row t.fin=v at *
  simp [go_sem,wtA7,w3S,hpT,tabV];refine hn _ ?_;simp [go_sem,toPV]
theorem z8p {l:List Int} (h:∀ y∈l,0<=y):toI (l.map Int.toNat)=l:=by unfold toI;rw [yke];refine (ykc fun y hy=>?_).trans (List.map_id l);have:=h y hy;simp only [ykl,id];omega
theorem z3v {r:GRing} {ini:List GW} {K N:Nat} (h:0<K):T0 r ini K N=ini::List.replicate (K - 1) (List.replicate N r.zero):=by obtain ⟨K,rfl⟩:∃ k,K=k+1:=⟨K - 1,by omega⟩;unfold T0;rw [List.replicate_succ]; rfl
theorem z3b {u:GTrans} (ok:u.ok):ckT u.ring u:=by have:=ok.fl;refine ⟨rfl,ok.ring,⟨ok.fin,by omega⟩,fun x hx=>?_⟩;obtain ⟨a1,a2,a3,a4,a5,a6,a7,a8,a9⟩:=ok.arcs x hx;have:=ok.st1;exact ⟨a9,⟨a1,by omega⟩,a3,by omega⟩
theorem ztb (t:GTrans) (M:Meas t.nf.ring) (mp:MeasP M) {z n:Nat} (hn:n<=90) (hn1:3<=n) (h:t.sm n) (hl:t.arcs.length<=19) (ok:t.ok) (ht:t.nf.fits M z) (hML:M.lim<=1000000) (wx wy:List Int) (hwx:zy9 wx t.i) (hwy:zy9 wy t.o) (hc:emC t=false)
  (hlim:z+(wx.length+1)*((wy.length+1)*(t.st.toNat*sLv z t.nf.arcs))+z+1+t.st.toNat<=M.lim) :
  Sp P F.fk [enc t,.sl (ens wx),.sl (ens wy)] (.pure (.tup [enc (wgt t.nf wx wy),.int .i64 0]))/\(wgt t.nf wx wy).chk t.nf.ring/\M.mb (z+(wx.length+1)*((wy.length+1)*(t.st.toNat*sLv z t.nf.arcs))+z+1+t.st.toNat) (wgt t.nf wx wy)/\(wgt t.nf wx wy).sm 400000:=by
 have uok:=zwc ok;have hal:=zt8 t;have s1:=ok.st1;have s2:=ok.st2;have kn:=zhp t n hn hn1 h hl (by have:=ok.il; omega) (by have:=ok.fl; omega);rw [yj1 ok,yj1 ok] at kn;obtain ⟨N,hN⟩:∃ N:Nat,N=t.st.toNat:=⟨_,rfl⟩;have hst:t.nf.st=(N:Int):=by show t.st=_; omega
 have hN64:N<=64:=by omega
 obtain ⟨s,hk,hs⟩:=zri t.nf N hst (by omega) (by omega) (by rw [hN]; exact zlh ok);have hspec:=z16 (t:=t.nf) (zlh ok) (by rw [hN] at hk; exact hk);have hnl:¬ s.2.length<t.nf.st.toNat:=fun hlt=>by have:=hspec.1.1 hlt;have e:emC t=cycF t.st.toNat (emP t.nf.arcs):=rfl;rw [hc] at e;rw [show t.nf.st.toNat=t.st.toNat from rfl,<- e] at this;cases this
 have ho:=hspec.2 hnl;have hoI:toI (s.2.map Int.toNat)=s.2:=z8p fun y hy=>(hk.c.rng y hy).1;have hol:=ho.len;rw [yk2] at hol;have holt:∀ q∈s.2.map Int.toNat,q<N:=fun q hq=>by rw [hN]; exact (ho.all q).1 hq
 generalize hord:s.2.map Int.toNat=ord at *
 rw [<- hoI] at hs;have hordl:ord.length=s.2.length:=by rw [<- hord,yk2]
 have hordl2:ord.length<=N:=by rw [hordl,hN]; exact hol
 have hNl:¬ ord.length<N:=by rw [hordl,hN]; exact hnl
 have hi:t.nf.ini.length=N:=by have:=ok.il; show t.ini.length=N; omega
 have hf:t.nf.fin.length=N:=by have:=ok.fl; show t.fin.length=N; omega
 have fo:fillOk t.nf M z:=⟨uok.ring,z3b uok,mp,fun x hx=>(ht.arcs x hx).1,fun x hx=>by
  obtain ⟨a1,a2,a3,a4,a5,a6,a7,a8,a9⟩:=uok.arcs x hx;have:=uok.i1; have:=uok.o1
  exact ⟨⟨by omega,by omega⟩,by omega,by omega⟩,by omega,hML⟩
 have hx1:=hwx.2.1;have hy1:=hwy.2.1;have hK:0<plN wx wy:=by have:=ztw (yjz wx.length) (yjz wy.length); omega
 have hck:ckL t.nf.ring t.nf.st.toNat t.nf.ini:=⟨uok.ini,by rw [hi,hst]; rfl⟩;have hT0:=yff (z3b uok) hck hK;have hv0:vbT M z (T0 t.nf.ring t.nf.ini (plN wx wy) N):=by
  intro l hl;rw [z3v hK] at hl;rcases yj9.1 hl with rfl|hl
  ·exact ht.ini.1
  ·rw [ylc hl]; exact z3x M uok.ring _ _
 rw [show t.nf.st.toNat=N by rw [hst]; rfl] at hT0;have hfw:=yan (r:=t.nf.ring) (t:=t.nf) uok.ring (z3b uok) (wx:=wx) (wy:=wy) ho hck;rw [show t.nf.st.toNat=N by rw [hst]; rfl] at hfw;have hsl:ord.length*sLv z t.nf.arcs<=t.st.toNat*sLv z t.nf.arcs:=yji _ (by omega);have hsl2:(wx.length+1)*((wy.length+1)*(ord.length*sLv z t.nf.arcs))<=(wx.length+1)*((wy.length+1)*(t.st.toNat*sLv z t.nf.arcs)):=yk3 _ (yk3 _ hsl);have hfill:=z6i fo (wx:=wx) (wy:=wy) (I:=wx.length+1) (J:=wy.length+1) (N:=N) rfl rfl (by rw [hst]; rfl) (by omega) (by omega) (B:=z) (T:=T0 t.nf.ring t.nf.ini (plN wx wy) N) (ord:=ord) holt (by omega) (by rw [show t.nf.st.toNat=N by rw [hst]; rfl]; exact hT0) hv0 (by omega);obtain ⟨t1,t2⟩:=z2k fo (wx:=wx) (wy:=wy) (ord:=ord) (B:=z) (T:=T0 t.nf.ring t.nf.ini (plN wx wy) N) (by rw [show t.nf.st.toNat=N by rw [hst]; rfl]; exact hT0) hv0 (wx.length+1) (yj5 _);obtain ⟨f1,f2⟩:=hfw;have hp:wx.length*(wy.length+1)+wy.length<plN wx wy:=ztw (yj5 _) (yj5 _);have hrow:=f1.get hp;have hvr:=t2.get (wx.length*(wy.length+1)+wy.length);have hvf:vb M z t.nf.fin:=ht.fin.1;rw [<- f2];have hW:=ztf (M:=M) uok.ring hvr hvf N (by rw [hrow.2]; exact yj5 _) (by rw [hf]; exact yj5 _);rw [zlb (by rw [hrow.2]; exact yj5 _)] at hW;refine ⟨?_,hW.1,M.mono hW.2 (by omega),mp.smP (n:=z+(wx.length+1)*((wy.length+1)*(ord.length*sLv z t.nf.arcs))+z+1+N) (by omega) hW.1 hW.2⟩;clear hW;have htail:=fun R hR=>yb9 (t:=t.nf) mp uok.ring (wx:=wx) (wy:=wy) (ord:=ord) (N:=N) (T:=flT t.nf.ring wx wy t.nf.arcs ord (T0 t.nf.ring t.nf.ini (plN wx wy) N) (wx.length+1)) rfl rfl (by omega) (by omega) f1.1 rfl hrow.2 hf (by omega) hvr hvf (by omega) R hR;have hname:=fun R hR=>yca (t:=t.nf) (wx:=wx) (wy:=wy) (ord:=ord) (N:=N) hst (by omega) rfl rfl (by omega) (by omega) R hi (z3v (r:=t.nf.ring) (ini:=t.nf.ini) (N:=N) hK) hR;have hbuild:=fun R hR=>z8h (t:=t.nf) (wx:=wx) (wy:=wy) (ord:=ord) (N:=N) hst (by omega) rfl rfl (by omega) (by omega) R (A:=none) hR;have hu:t.nf.fin.length=N:=hf;have hui:t.nf.i=t.i:=rfl;have huo:t.nf.o=t.o:=rfl;have vx:=zii wx t.i (by omega);have vy:=zii wy t.o (by omega);have dx:decide ((1<=t.i/\t.i<=32)/\wx.length<=256/\∀ x∈wx,1<=x/\x<=t.i)=true:=decide_eq_true hwx;have dy:decide ((1<=t.o/\t.o<=32)/\wy.length<=256/\∀ x∈wy,1<=x/\x<=t.o)=true:=decide_eq_true hwy;rw [dx] at vx;rw [dy] at vy;rw [<- hui] at vx;rw [<- huo] at vy;generalize sumW t.nf.ring _ t.nf.fin=W at *
 generalize flT t.nf.ring wx wy t.nf.arcs ord (T0 t.nf.ring t.nf.ini (plN wx wy) N) (wx.length+1)=T1 at *
 generalize T0 t.nf.ring t.nf.ini (plN wx wy) N=T00 at *
 have hl0:¬ ((ord.length:Int)<(N:Int)):=by omega
 refine Sp.of_mr c.fk (by simp) ?_;generalize hR:(fun (ex:Exit) (s:St) (_:Option FA)=>retP [(6,some 8),(7,none)] (.pure (.tup [enc W,.int .i64 0])) ex s)=R;have hfin:∀ s,retP [(6,some 8),(7,none)] (.pure (.tup [enc W,.int .i64 0])) .ret s->R .ret s none:=fun s hs=>by subst hR; exact hs
 have hmain:MR P 132 zy6.er (w1S t.nf wx wy ord) none R:=hbuild R fun s hw=>MR.weak hw (hname R fun s hw=>MR.weak hw (ycb R hfill fun s hw=>MR.weak hw (htail R hfin)));clear hbuild hname htail hfill hfin hR;rw [yb5];unfold z8g yb6 yb7 wtA4 wtA3 wtA2 wtA1;generalize zy6=W13 at *
 refine MR.gseq ?_;simp [go_sem];refine MR.gseq ?_;simp [go_sem];refine zab kn ?_;generalize t.nf=u at *
 simp [go_sem];refine MR.gseq ?_;simp [go_sem];refine zab hs ?_;simp [go_sem];refine MR.gseq ?_;simp [go_sem,zdh,hst,hl0];refine zab vx ?_;simp [go_sem];refine zab vy ?_;simp [go_sem];refine MR.weak (Weak.to [1,2,3,6,9] [((3,0),3),((6,0),6)] ?_) hmain;simp [go_sem,w1S,mkSt,z8,hst]
end Go.Ab
namespace Go.Ab
section
variable {r:GRing} (hr:r.ok=true) {t:GTrans} (ht:ckT r t) {wx wy:List Int}
end
def awN (n:Nat):GW:=.mk (rto (n:Rat)) 0 false 0 [] []
theorem yig:aw1=awN 1:=rfl
theorem z7g (a b:Nat):ar1.plus (awN a) (awN b)=awN (a+b):=by have:ar1.plus (awN a) (awN b)=zaq 1 (awN a) (awN b):=rfl;rw [this];simp only [zaq,yjg,awN,GW.q_mk,zbt,Rat.natCast_add]
theorem z3n (a b:Nat):ar1.times (awN a) (awN b)=awN (a*b):=by have:ar1.times (awN a) (awN b)=zao 1 (awN a) (awN b):=rfl;rw [this];simp only [zao,true_or,yjg,awN,GW.q_mk,zbt,Rat.natCast_mul]
theorem zxd:ar1.zero=awN 0:=by
 have:ar1.zero=.mk gr0 0 false 0 [] []:=by simp [GRing.zero,ar1,GRing.ok]
 rw [this,awN,show ((0:Nat):Rat)=0 from rfl,zb5];rfl
theorem ybg {a b:Nat} (h:awN a=awN b):a=b:=by simp only [awN,GW.mk.injEq] at h;have:=z85 h.1;exact Rat.natCast_inj.1 this
def awT:GTrans:=⟨ar1,1,1,1,[aw1],[aw1],[⟨0,1,0,0,aw1⟩,⟨0,0,1,0,aw1⟩]⟩
theorem z7f:tidT ar1 awT.arcs=[⟨0,0,1,0,awN 1⟩,⟨0,1,0,0,awN 1⟩]:=by
 have:mrg GTArc.key (upT ar1) id (srt GTArc.key awT.arcs)=[⟨0,0,1,0,awN 1⟩,⟨0,1,0,0,awN 1⟩]:=by
  have h:([0,0,1,0]:List Int)<[0,1,0,0]:=by decide
  have h2:([0,1,0]:List Int)<[1,0,0]:=by decide
  simp [awT,srt,insR,mrg,mst,GTArc.key,upT,yig,h,h2]
 unfold tidT;rw [this];have h:awN 1≠awN 0:=fun h=>by have:=ybg h; omega
 simp [zxd,h]
theorem z3l:awT.nf=⟨ar1,1,1,1,[awN 1],[awN 1],[⟨0,0,1,0,awN 1⟩,⟨0,1,0,0,awN 1⟩]⟩:=by rw [<- z7f]; rfl
theorem yif:wgt awT.nf [1,1] [1,1]=awN 6:=by rw [z3l];simp [wgt,sumW,tabW,valW,zhz,rowW,sprN,accW,accS,addW,zi4,emF,zrh,fitT,stp,znp,zxd,z7g,z3n]
section
variable {P:Program} {K:Ctx} {Z Z':Cz} {st st':St} {w w':World} {a:Act}
theorem Weak.freezeObj {s g n:Nat} {o:AObj} {ps:List PV} (ho:st.obj s g=some o) (hp:o.es.mapM (toPV st n)=some ps) (hd:(s,g)∉o.es.flatMap (deps st n)):Weak st ((killAll st (o.es.flatMap (deps st n))).setObj s g ⟨o.sz,ps.map .p⟩):=by
 intro K Z w a hs;generalize hids:o.es.flatMap (deps st n)=ids at hd;have hM:∀ b o,Z.M b=some o->Mx Z st w ids b=some o:=fun b o hb=>Mx_M hb;have hz:ZLe Z st { Z with M:=Mx Z st w ids } (killAll st ids):=(ZLe.killAll ids st).trans (ZLe.growM hM);have hh:HRep K { Z with M:=Mx Z st w ids } (killAll st ids) w:=by
  refine (HRep.killAll ids hs.heap).grow (Keep.refl w _) _ hM (fun b o hb=>?_) (fun b o hb=>?_) (fun s g o b ho hb=>?_)
  ·rcases zbw hb with h|⟨_,h,_⟩
   ·exact hs.heap.mem b o h
   ·exact h
  ·rcases zbw hb with h|⟨_,_,s,g,ob,_,e2,e3⟩
   ·exact .inl h
   ·exact .inr (hs.heap.own s g ob b e2 e3)
  ·obtain ⟨ho1,ho2⟩:=zdl ids st ho;cases hm:Mx Z st w ids b with
   | none=>rfl
   | some y =>
    exfalso;rcases zbw hm with h|⟨_,_,s',g',ob,e1,e2,e3⟩
    ·rw [hs.heap.sep s g o b ho1 hb] at h; cases h
    ·obtain ⟨rfl,rfl⟩:=hs.heap.inj s g s' g' o ob b ho1 e2 hb e3;exact ho2 e1
 have ho':=zh4 ids ho hd;have hO:=hs.heap.objs s g o ho;have hlen:=zf8 hp;have hcl:∀ l:List PV,(l.map AV.p).flatMap AV.cells=(l.flatMap PV.cells).map .p:=fun l=>by
  induction l with
  | nil=>rfl
  | cons q l ih=>rw [yk9,yle,ih,yle,ykj]; cases q<;>rfl
 have key:(∀ b,Z.B s g=some b->∃ (cur:Array Value) (T:TypeId) (vals:List Value),w.heap[b]?=some (.cells cur T (0,0))/\PReps (Mx Z st w ids) (ps.flatMap PV.cells) vals /\
   (∀ (i:Nat) (v:Value),vals[i]?=some v->cur[i]?=some v)/\cur.size=Z.cap s g*o.sz/\o.es.length<=Z.cap s g/\Z.cap s g<=maxLen)/\(∀ p∈ps,p.sz=o.sz)/\∀ c∈ps.flatMap PV.cells,c.one=true:=by
  cases hb:Z.B s g with
  | none =>
   have h0:=hO.non hb;rw [h0] at hp;have:=zch hp;subst this;exact ⟨fun b hb=>(by cases hb),by simp,by simp⟩
  | some b =>
   obtain ⟨cur,T,vals,k1,k2,k3,k4,k5,k6⟩:=hO.blk b hb;obtain ⟨r1,r2,r3⟩:=zg5 (w:=w) (n:=n) (ids:=ids) hO.pos (zgn hs.heap ids n) k2 hp hO.els hO.one (fun i hi=>by rw [<- hids]; exact hi);exact ⟨fun b' hb'=>(by cases hb'; exact ⟨cur,T,vals,k1,r1,k3,k4,k5,k6⟩),r2,r3⟩
 obtain ⟨q1,q2,q3⟩:=key;have hss:=hh.same2 ho' (es:=ps.map .p) (by rw [yk2,hlen]) (fun x hx=>?_) (fun c hc=>?_) (fun b hb=>?_)
 ·refine ⟨{ Z with M:=Mx Z st w ids },⟨fun u=>?_,hs.defers,hs.size,hss⟩,.of_zle (hz.trans (ZLe.setObj _ _ s g o ⟨o.sz,ps.map .p⟩ ho' rfl (by simp [hlen])))⟩;rw [show ((killAll st ids).setObj s g ⟨o.sz,ps.map .p⟩).get u=st.get u from zkw (s:=(killAll st ids).setObj s g ⟨o.sz,ps.map .p⟩) (t:=st) (zcd ids st) u];exact ARep.mono (hz.trans (ZLe.setObj _ _ s g o ⟨o.sz,ps.map .p⟩ ho' rfl (by simp [hlen]))) (hs.slots u)
 ·obtain ⟨p,hp',rfl⟩:=yj3.1 hx;exact q2 p hp'
 ·rw [hcl] at hc;obtain ⟨p,hp',rfl⟩:=yj3.1 hc;exact q3 p hp'
 ·obtain ⟨cur,T,vals,e1,e2,e3,e4,e5,e6⟩:=q1 b hb;refine ⟨cur,T,vals,e1,?_,e3,e4,e5,e6⟩;rw [hcl];exact AReps.of_p e2
end
end Go.Ab
namespace Go.Ab
open Enc (enc)
attribute [local go_sem] zal Opd.slots
theorem zxc:awT.ok:=by
 refine ⟨rfl,by decide,by decide,by decide,by decide,rfl,rfl,by decide,?_,?_,?_⟩
 ·intro x hx;simp only [awT,yj9,List.not_mem_nil,or_false] at hx;rcases hx with rfl|rfl
  ·exact ⟨by decide,by decide,by decide,by decide,by decide,by decide,by decide,by decide,zvb⟩
  ·exact ⟨by decide,by decide,by decide,by decide,by decide,by decide,by decide,by decide,zvb⟩
 ·intro w hw; simp [awT] at hw; subst hw; exact zvb
 ·intro w hw; simp [awT] at hw; subst hw; exact zvb
theorem z3k:awT.sm 3:=by
 refine ⟨?_,?_,?_⟩
 ·intro w hw; simp [awT] at hw; subst hw; exact z31
 ·intro w hw; simp [awT] at hw; subst hw; exact z31
 ·intro x hx;simp only [awT,yj9,List.not_mem_nil,or_false] at hx;rcases hx with rfl|rfl<;>exact z31
theorem z3m:emC awT=false:=by
 have:emC awT=cycF awT.st.toNat (emP awT.nf.arcs):=rfl;rw [this,z3l];show cycF 1 []=false
 decide
theorem zyx:Sp P F.fk [enc awT,.sl (ens ([1,1]:List Int)),.sl (ens ([1,1]:List Int))] (.pure (.tup [enc (awN 6),.int .i64 0])):=by
 obtain ⟨M,hM,mp,hf⟩:=z5u zxc (fun w hw=>by
  have:w=aw1:=by simpa [GTrans.wts,awT] using hw
  rw [this]; exact z31.li) (by simp [GTrans.wts,awT])
 have e:awT.st.toNat*sLv (awT.arcs.length+100) awT.nf.arcs=105:=by rw [z3l]; rfl
 have:=ztb awT M mp (z:=awT.arcs.length+100) (n:=3) (by omega) (by omega) z3k (by decide) zxc hf (by omega) [1,1] [1,1] ⟨by decide,by decide,by decide⟩ ⟨by decide,by decide,by decide⟩ z3m (by
  rw [e,hM]; decide)
 have:=this.1
 rwa [yif] at this
theorem ye9:g.jf=.seq (.reg [⟨some 0,.mv (.c (.p (.bool false))),none⟩] [[0]]) awC5:=rfl
theorem zke:Sp P F.jf [] (.pure (.bool true)):=by
 have hv:=zlu awT (z3k.mono (by omega)) (by decide) (by decide);rw [decide_eq_true zxc] at hv;have hl:=zsa awT 3 (by omega) (by omega) z3k (by decide) zxc;rw [z3m] at hl;have hw:=zyx;have h1:=z9z ar1;rw [z9y] at h1;have hof:=zmj 6 1 (by omega) (by omega) (by omega);rw [show Rat.divInt 6 1=((6:Nat):Rat) by decide] at hof;have h4:(rto ((6:Nat):Rat)).sm 1073741824:=⟨yj6 (show (rto ((6:Nat):Rat)).num.length<=1 from zav (by decide)) (by omega),yj6 (show (rto ((6:Nat):Rat)).den.length<=1 by decide) (by omega)⟩;have hsame:=zce (rto ((6:Nat):Rat)) (rto ((6:Nat):Rat)) h4;refine Sp.of_mr c.jf (by simp) ?_;rw [ye9];have hmain:MR P 47 awC2.er ⟨[(3,.ptr 3 0 0 0)],[(3,[some ⟨8,[.p (enc awT)]⟩]),(DEAD,[none])]⟩ none fun ex s _=>retP [(0,none)] (.pure (.bool true)) ex s:=by refine MR.of_vm ?_;unfold awC2 awC1;simp [go_sem];refine zab hw ?_;simp [go_sem,awN];refine zab hof ?_;simp [go_sem];refine zab hsame ?_;simp [go_sem];refine zab hv ?_;simp [go_sem];refine zab hl ?_;simp [go_sem]
 generalize (fun (ex:Exit) (s:St) (_:Option FA)=>retP [(0,none)] (RV.pure (PV.bool true)) ex s)=R at *
 unfold awC5;refine MR.gseq ?_;simp [go_sem];unfold awC4;refine MR.gseq ?_;simp [go_sem];refine MR.gseq ?_;simp [go_sem];refine zaa h1 (by simp [go_sem,ar1]) ?_;unfold awC3;simp [go_sem];refine MR.gseq ?_;generalize awC2=W at *
 simp [go_sem];refine MR.weak (Weak.freezeObj (s:=3) (g:=0) (n:=6) (ps:=[enc awT]) rfl ?_ ?_) ?_
 ·simp [go_sem,awT,ar1]
 ·simp [go_sem]
 ·refine MR.weak (Weak.to [3] [((3,0),3)] ?_) hmain;simp [go_sem,killAll,mkSt,St.setObj,deps]
theorem zz3 (x y:GTArc) (hx:x.w.sm 1048576):Sp P F.dv [enc x,enc y] (.pure (.bool (decide (x.key=y.key/\x.w=y.w)))):=by
 refine Sp.vz c.dv fun _=>?_;simp [g.dv,go_sem];refine zab (zjx x y) ?_;have hle:lexI x.key y.key=0 ↔ x.key=y.key:=zmw (by simp [GTArc.key]);by_cases hk:lexI x.key y.key=0
 ·simp [go_sem,hk];refine zab (zcq x.w hx y.w) ?_;simp [go_sem];exact fun _=>hle.1 hk
 ·simp [go_sem,hk];exact fun h=>absurd (hle.2 h) hk
theorem zsq (l m:List GTArc) (f:FuncId) (hl:l.length<=4611686018427387904) (hf:∀ x∈l,∀ y∈m,Sp P f [enc x,enc y] (.pure (.bool (decide (x=y))))) :
  Sp P F.jy [.sl (ens l),.sl (ens m),.fn f []] (.pure (.bool (decide (l=m)))):=by
 refine Sp.vz c.jy fun _=>?_;simp [g.jy,go_sem];refine ⟨fun h=>?_,fun h=>fun he=>h (by rw [he])⟩;have hlen:l.length=m.length:=by omega
 refine zai (S:=fun k:Nat=>mkSt [(1,.p (.sl (ens m))),(2,.p (.fn f [])),(15,.p (.sl (ens l))),(16,.p (.int .i64 l.length)),(17,.p (.int .i64 k))] []) (I:=fun k=>k<=l.length/\l.take k=m.take k) (m:=fun k=>l.length - k) 0
  (Weak.to [1,2,15,16,17] [] (by simp [go_sem])) ⟨by omega,by simp⟩ ?_
 rintro k ⟨h1,h2⟩ R hn hr hx;have e1:=i64s k (by omega);simp [g.qq,mkSt,go_sem];refine ⟨fun hk=>?_,fun hk=>hx _ _ ?_⟩
 ·have hk2:k<m.length:=by omega
  have bad:l[k]≠m[k]->l≠m:=fun h h'=>by subst h'; exact h rfl
  refine zae hk ?_
  try simp [go_sem]
  refine zae hk2 ?_
  try simp [go_sem]
  refine zab (hf l[k] (yj2 hk) m[k] (yj2 hk2)) ?_;by_cases h6:l[k]=m[k]
  ·simp [h6,e1,go_sem];exact hn (k+1) _ (Weak.to [1,2,15,16,17] [] (by simp [go_sem])) ⟨by omega,by rw [yj7 hk,yj7 hk2,h2,h6]⟩ (by omega)
  ·have h8:l≠m:=bad h6;simp [h6,go_sem];exact hr _ (by simp [h8,go_sem])
 ·have h3:l=m:=by rw [<- List.take_length (l:=l),<- List.take_length (l:=m),<- hlen,show l.length=k by omega]; exact h2
  simp [h3,go_sem]
theorem z6m (l m:List Int) (hl:l.length<=4611686018427387904):Sp P F.kj [.sl (ens l),.sl (ens m)] (.pure (.bool (decide (l=m)))):=by
 refine Sp.vz c.kj fun _=>?_;simp [g.kj,go_sem];refine ⟨fun h=>?_,fun h=>fun he=>h (by rw [he])⟩;have hlen:l.length=m.length:=by omega
 refine zai (S:=fun k:Nat=>mkSt [(0,.p (.sl (ens l))),(1,.p (.sl (ens m))),(12,.p (.int .i64 l.length)),(13,.p (.int .i64 k))] []) (I:=fun k=>k<=l.length/\l.take k=m.take k) (m:=fun k=>l.length - k) 0
  (Weak.to [0,1,12,13] [] (by simp [go_sem])) ⟨by omega,by simp⟩ ?_
 rintro k ⟨h1,h2⟩ R hn hr hx;have e1:=i64s k (by omega);simp [g.rd,mkSt,go_sem];refine ⟨fun hk=>?_,fun hk=>hx _ _ ?_⟩
 ·have hk2:k<m.length:=by omega
  have bad:l[k]≠m[k]->l≠m:=fun h h'=>by subst h'; exact h rfl
  refine zae hk ?_
  try simp [go_sem]
  refine zae hk2 ?_
  try simp [go_sem]
  refine ⟨fun h6=>?_,fun h6=>?_⟩
  ·simp [e1];exact hn (k+1) _ (Weak.to [0,1,12,13] [] (by simp [go_sem])) ⟨by omega,by rw [yj7 hk,yj7 hk2,h2,h6]⟩ (by omega)
  ·have h8:l≠m:=bad h6;exact hr _ (by simp [h8,go_sem])
 ·have h3:l=m:=by rw [<- List.take_length (l:=l),<- List.take_length (l:=m),<- hlen,show l.length=k by omega]; exact h2
  simp [h3,go_sem]
theorem z4x (r s:GRing) (hl:r.parts.length<=4611686018427387904):Sp P F.jx [enc r,enc s] (.pure (.bool (decide (r=s)))):=by
 refine Sp.vz c.jx fun _=>?_;simp [g.jx,go_sem];have e:decide (r=s)=(decide (r.kind=s.kind)&&decide (r.parts=s.parts)):=by cases r; cases s; simp [GRing.mk.injEq]
 rw [e];by_cases hk:r.kind=s.kind
 ·simp [hk,go_sem];refine zab (z6m r.parts s.parts hl) ?_;simp [go_sem]
 ·simp [hk,go_sem];exact fun h=>hk (by rw [h])
theorem zz4 (x y:GTArc) (hx:x.w.sm 1048576):Sp P F.dv [enc x,enc y] (.pure (.bool (decide (x=y)))):=by
 have h:=zz3 x y hx;have e:decide (x=y)=decide (x.key=y.key/\x.w=y.w):=by refine decide_eq_decide.2 ⟨fun h=>by subst h; exact ⟨rfl,rfl⟩,fun h=>?_⟩;obtain ⟨h1,h2⟩:=h;cases x; cases y;simp only [GTArc.key,List.cons.injEq,and_true] at h1;simp only [GTArc.mk.injEq];exact ⟨h1.1,h1.2.1,h1.2.2.1,h1.2.2.2,h2⟩
 rw [e]; exact h
theorem zvn (a b:GTrans) (h:a.sm 1048576) (li:a.ini.length<=1000000) (lf:a.fin.length<=1000000) (la:a.arcs.length<=1000000) (hp:a.ring.parts.length<=4611686018427387904) :
  Sp P F.ji [enc a,enc b] (.pure (.bool (decide (a=b)))):=by
 refine Sp.vz c.ji fun _=>?_;simp [g.ji,go_sem];refine zab (z4x a.ring b.ring hp) ?_;by_cases h1:a.ring=b.ring;rotate_left
 ·rw [decide_eq_false h1]; simp [go_sem]; exact fun h=>h1 (by rw [h])
 rw [decide_eq_true h1]; simp [go_sem];by_cases h2:a.i=b.i;rotate_left
 ·simp [h2]; exact fun h=>h2 (by rw [h])
 by_cases h22:a.o=b.o;rotate_left
 ·simp [h2,h22]; exact fun h=>h22 (by rw [h])
 by_cases h3:a.st=b.st;rotate_left
 ·simp [h2,h22,h3]; exact fun h=>h3 (by rw [h])
 simp [h2,h22,h3];refine zab (zfd a.ini b.ini F.ak (by omega) fun x hx y _=>zcq x (h.ini x hx) y) ?_;by_cases h4:a.ini=b.ini;rotate_left
 ·rw [decide_eq_false h4]; simp [go_sem]; exact fun h=>h4 (by rw [h])
 rw [decide_eq_true h4]; simp [go_sem];refine zab (zfd a.fin b.fin F.ak (by omega) fun x hx y _=>zcq x (h.fin x hx) y) ?_;by_cases h5:a.fin=b.fin;rotate_left
 ·rw [decide_eq_false h5]; simp [go_sem]; exact fun h=>h5 (by rw [h])
 rw [decide_eq_true h5]; simp [go_sem];refine zab (zsq a.arcs b.arcs F.dv (by omega) fun x hx y _=>zz4 x y (h.arcs x hx)) ?_;simp [go_sem];have e:a.arcs=b.arcs ↔ a=b:=⟨fun h6=>by cases a; cases b; simp_all,fun h=>by rw [h]⟩;simp [e]
end Go.Ab
