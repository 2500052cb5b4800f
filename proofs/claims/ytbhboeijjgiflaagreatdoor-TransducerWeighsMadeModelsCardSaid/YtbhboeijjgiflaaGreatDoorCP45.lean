/-
Proofs for the law TransducerWeighsMadeModels, part 45. Conditions: none.
-/
import Derived.Test.YtbhboeijjgiflaaGreatDoorCP42
import Derived.Test.YtbhboeijjgiflaaGreatDoorCP44
import Derived.Test.YtbhboeijjgiflaaGreatDoorCP36
import Derived.Test.YtbhboeijjgiflaaGreatDoorCP38
import Derived.Test.YtbhboeijjgiflaaGreatDoorCP40
import Derived.Test.YtbhboeijjgiflaaGreatDoorCP43
import Derived.Test.YtbhboeijjgiflaaGreatDoorCP29
set_option maxRecDepth 100000
set_option maxHeartbeats 4000000
set_option linter.all false
namespace Go.Ab
open Enc (enc)
attribute [local go_sem] zal Opd.slots
theorem zjf(t:GTrans)(N:Nat)(hst:t.st=N)(hN:N<=64)(hal:t.arcs.length<=4096)(hfit:∀ x∈t.arcs,x.fit N):∃ s,kaH (t.arcs.filter emF) N s.2.length s/\Sp P F.du [enc t] (.pure (.sl (ens s.2))):=by
 have hfitE:∀ x∈t.arcs.filter emF,x.fit N:=fun x hx=>hfit x (ynl.1 hx).1;have hend:∃ s',kaL (t.arcs.filter emF) (N+1) 0 (inL t.arcs N,ouL (inL t.arcs N) N)=s'/\kaH (t.arcs.filter emF) N s'.2.length s':=z4y hfitE (N+1) 0 (z4x t.arcs N) (by omega);refine⟨kaL (t.arcs.filter emF) (N+1) 0 (inL t.arcs N,ouL (inL t.arcs N) N),by obtain⟨s',e,h⟩:=hend;rw[e];exact h,?_⟩;have hinit:=z4x t.arcs N;have hEl:(t.arcs.filter emF).length<=4096:=ylq (yni _ _) hal;refine Sp.vz c.du fun _=>?_;simp[g.du,go_sem,hst];refine⟨by omega,?_⟩
 refine zai (S:=fun k:Nat=>mkSt [(3,.own 1 0 0 N),(4,.own 2 0 0 ((t.arcs.take k).filter emF).length),(17,.p (.sl (ens t.arcs))),(18,.p (.int .i64 t.arcs.length)),(19,.p (.int .i64 k))] [(1,⟨1,avs (inL (t.arcs.take k) N)⟩),(2,⟨12,avs ((t.arcs.take k).filter emF)⟩)]) (I:=fun k=>k<=t.arcs.length) (m:=fun k=>t.arcs.length - k) 0
  ((Weak.nilSlot (t:=4) (s:=77) (sz:=12) rfl).trans (Weak.to [3,4,17,18,19] [((15,0),1),((77,0),2)] (by simp[mkSt,go_sem,yc8]))) (by omega) ?_
 rintro k h1 R hn hr hx;have e1:=i64s k (by omega);simp[g.qi,mkSt,go_sem];refine⟨fun hk=>zae hk ?_,fun hk=>hx _ _ ?_⟩
 ·have hf:=hfit _ (yl4 hk);have hil:=zrz (t.arcs.take k) N;have htk:t.arcs.take (k+1)=t.arcs.take k++[t.arcs[k]]:=yls hk;have hfle:((t.arcs.take k).filter emF).length<=4096:=by
   have h1:=yni emF (t.arcs.take k);have h2:(t.arcs.take k).length<=t.arcs.length:=by rw[yms];omega
   omega
  obtain⟨_,t1,t2⟩:=hf;have htl:t.arcs[k].t.toNat<(inL (t.arcs.take k) N).length:=by omega
  refine⟨fun a=>⟨fun b=>?_,fun b=>?_⟩,fun a=>?_⟩
  ·have he:emF t.arcs[k]=true:=by simp[emF,a,b]
   have hfl:(t.arcs.take (k+1)).filter emF=(t.arcs.take k).filter emF++[t.arcs[k]]:=by rw[htk,ynn];simp[he]
   have hin:=yc7 (A:=t.arcs.take k) he (hfit _ (yl4 hk));rw[<- htk]at hin;have hv:(inL (t.arcs.take k) N)[t.arcs[k].t.toNat]=(inL (t.arcs.take k) N).getD t.arcs[k].t.toNat 0:=by rw[ylr,ylt htl];rfl
   have hg:=zr0 (A:=t.arcs.take k) (N:=N) (y:=t.arcs[k].t.toNat) (by omega);have hk2:kcn ((t.arcs.take k).filter emF) ((t.arcs[k].t.toNat:Nat):Int) (fun _=>true)<=4096:=by unfold kcn;exact ylq (yni _ _) hfle
   have hb:0<=(inL (t.arcs.take k) N).getD t.arcs[k].t.toNat 0/\(inL (t.arcs.take k) N).getD t.arcs[k].t.toNat 0<=4096:=by rw[hg];omega
   have ew:IntKind.i64.wrap ((inL (t.arcs.take k) N).getD t.arcs[k].t.toNat 0+1)=(inL (t.arcs.take k) N).getD t.arcs[k].t.toNat 0+1:=i64w (by omega) (by omega);refine⟨⟨t1,by omega,by omega⟩,zae htl ⟨⟨t1,by omega,by omega⟩,zae htl ⟨by omega,?_⟩⟩⟩;rw[hv];generalize (inL (t.arcs.take k) N).getD t.arcs[k].t.toNat 0=z at *
   refine hn (k+1) _ (Weak.to [3,4,17,18,19] [((1,0),1),((41,0),2)] ?_) (by omega) (by omega);rw[hfl,hin];simp[mkSt,go_sem,e1,ew]
  ·have he:emF t.arcs[k]=false:=by simp[emF,b]
   have hfl:(t.arcs.take (k+1)).filter emF=(t.arcs.take k).filter emF:=by rw[htk,ynn];simp[he]
   have hin:=yax (A:=t.arcs.take k) (N:=N) he;rw[<- htk]at hin;refine hn (k+1) _ (Weak.to [3,4,17,18,19] [((1,0),1),((2,0),2)] ?_) (by omega) (by omega);rw[hfl,hin];simp[mkSt,go_sem,e1]
  ·have he:emF t.arcs[k]=false:=by simp[emF,a]
   have hfl:(t.arcs.take (k+1)).filter emF=(t.arcs.take k).filter emF:=by rw[htk,ynn];simp[he]
   have hin:=yax (A:=t.arcs.take k) (N:=N) he;rw[<- htk]at hin;refine hn (k+1) _ (Weak.to [3,4,17,18,19] [((1,0),1),((2,0),2)] ?_) (by omega) (by omega);rw[hfl,hin];simp[mkSt,go_sem,e1]
 ·have hk':k=t.arcs.length:=by omega
  subst hk';clear hn hr hx;simp[go_sem];have hIl:=zrz t.arcs N;generalize hI:inL t.arcs N=I at *
  generalize hE:t.arcs.filter emF=E at *
  refine zai (S:=fun k:Nat=>mkSt [(3,.own 1 0 0 N),(4,.own 2 0 0 E.length),(7,.own 4 0 0 (ouL I k).length),(43,.own 1 0 0 N),(44,.p (.int .i64 N)),(45,.p (.int .i64 k))] [(1,⟨1,avs I⟩),(2,⟨12,avs E⟩),(4,⟨1,avs (ouL I k)⟩)]) (I:=fun k=>k<=N) (m:=fun k=>N - k) 0
   ((Weak.nilSlot (t:=7) (s:=77) (sz:=1) rfl).trans (Weak.to [3,4,7,43,44,45] [((1,0),1),((2,0),2),((77,0),4)] (by simp[mkSt,go_sem,ouL]))) (by omega) ?_
  rintro k h1 R hn hr hx;have e1:=i64s k (by omega);simp[g.qj,mkSt,go_sem];have hol:=ycl I k;refine⟨fun hk=>⟨⟨hk,by omega⟩,zae (show k<I.length by omega) ?_⟩,fun hk=>hx _ _ ?_⟩
  ·have hgk:I.getD k 0=I[k]'(by omega):=by rw[ylr,ylt (by omega)];rfl
   refine⟨fun hz=>⟨by omega,hn (k+1) _ (Weak.to [3,4,7,43,44,45] [((1,0),1),((2,0),2),((55,0),4)] ?_) (by omega) (by omega)⟩,fun hz=>hn (k+1) _ (Weak.to [3,4,7,43,44,45] [((1,0),1),((2,0),2),((4,0),4)] ?_) (by omega) (by omega)⟩
   ·rw[zx1,hgk,yl0 hz];simp[mkSt,go_sem,e1]
   ·rw[zx1,hgk,yl1 hz];simp[mkSt,go_sem,e1]
  ·have hk':k=N:=by omega
   rw[hk'];clear hn hr hx;simp[go_sem];clear hol h1 e1;clear hk' hk k;clear hend;generalize hsf:kaL E (N+1) 0 (I,ouL I N)=sf
   refine zai (S:=fun a:Nat × (List Int × List Int)=>mkSt [(3,.own 1 0 0 N),(4,.own 2 0 0 E.length),(7,.own 4 0 0 a.2.2.length),(10,.p (.int .i64 a.1))] [(1,⟨1,avs a.2.1⟩),(2,⟨12,avs E⟩),(4,⟨1,avs a.2.2⟩)])
    (I:=fun a=>kaH E N a.1 a.2/\kaL E (N+1 - a.1) a.1 a.2=sf) (m:=fun a=>N+1 - a.1) (0,(I,ouL I N)) (Weak.to [3,4,7,10] [((1,0),1),((2,0),2),((4,0),4)] (by simp[mkSt,go_sem])) ⟨hinit,hsf⟩ ?_
   rintro⟨i,s⟩ ⟨hk,hl⟩ R hn hr hx;simp only at hk hl;have hcl:=hk.c.le;have hle:=hk.le;have e1:=i64s i (by omega);obtain⟨f,hf⟩:∃ f,N+1 - i=f+1:=⟨N - i,by omega⟩;rw[hf]at hl;simp only[kaL]at hl;simp[g.ql,mkSt,go_sem];refine⟨fun hi=>?_,fun hi=>hx _ _ ?_⟩
   ·rw[yl0 hi]at hl;have hsp:s.2=s.2.take i++s.2[i]::s.2.drop (i+1):=by rw[yr4,ynz]
    have hm0:kaM E N (s.2.take i) s.2[i] [] E s:=⟨hk.c,⟨_,hsp⟩,fun y hy=>by rw[hk.cnt y hy];simp[kcn]⟩
    refine zai (S:=fun a:Nat × (List Int × List Int)=>mkSt [(3,.own 1 0 0 N),(4,.own 2 0 0 E.length),(7,.own 4 0 0 a.2.2.length),(10,.p (.int .i64 i)),(63,.own 2 0 0 E.length),(64,.p (.int .i64 E.length)),(65,.p (.int .i64 a.1))] [(1,⟨1,avs a.2.1⟩),(2,⟨12,avs E⟩),(4,⟨1,avs a.2.2⟩)])
     (I:=fun a=>a.1<=E.length/\a.2=(E.take a.1).foldl (kaA s.2[i]) s/\kaM E N (s.2.take i) s.2[i] (E.take a.1) (E.drop a.1) a.2) (m:=fun a=>E.length - a.1) (0,s) (Weak.to [3,4,7,10,63,64,65] [((1,0),1),((2,0),2),((4,0),4)] (by simp[mkSt,go_sem])) ⟨by omega,rfl,by simpa using hm0⟩ ?_
    rintro⟨x,u⟩ ⟨hx1,hu,hM⟩ R2 hn2 hr2 hx2;simp only at hx1 hu hM;have e2:=i64s x (by omega);simp[g.qk,mkSt,go_sem];refine⟨fun hxl=>?_,fun hxl=>hx2 _ _ ?_⟩
    ·have hPl:(s.2.take i).length=i:=by rw[yms];omega
     obtain⟨post,hpre⟩:=hM.pre;have hiu:i<u.2.length:=by rw[hpre];simp[hPl]
     have hui:u.2[i]=s.2[i]:=by
      have:u.2[i]?=some s.2[i]:=by rw[hpre,yns (by omega),hPl,Nat.sub_self];rfl
      rw[ylt hiu]at this;exact Option.some.inj this
     have htk:E.take (x+1)=E.take x++[E[x]]:=yls hxl;have hdr:E.drop x=E[x]::E.drop (x+1):=by rw[yr4]
     have hfx:=hfitE _ (yl4 hxl);rw[hdr]at hM;have hM2:=hM.step (by rw[<- hdr,ynz]) hfx;have hu2:kaA s.2[i] u E[x]=(E.take (x+1)).foldl (kaA s.2[i]) s:=by rw[htk,ymp,<- hu];rfl
     rw[<- htk]at hM2;refine⟨hxl,zae hxl ⟨hiu,zae hiu ?_⟩⟩;rw[hui];refine⟨fun he=>?_,fun he=>?_⟩
     ·obtain⟨_,t1,t2⟩:=hfx;have hul:=hM.c.len;have htl:E[x].t.toNat<u.1.length:=by omega
      have hv:u.1[E[x].t.toNat]=u.1.getD E[x].t.toNat 0:=by rw[ylr,ylt htl];rfl
      have hcnt:=hM.cnt E[x].t.toNat (by omega);have b1:kcn (E.take x) ((E[x].t.toNat:Nat):Int) (zc6 (s.2.take i++[s.2[i]]))<=4096:=by unfold kcn;refine ylq (yni _ _) ?_;rw[yms];omega
      have b2:kcn (E[x]::E.drop (x+1)) ((E[x].t.toNat:Nat):Int) (zc6 (s.2.take i))<=4096:=by unfold kcn;refine ylq (yni _ _) ?_;rw[<- hdr,yoy];omega
      have ew:IntKind.i64.wrap (u.1.getD E[x].t.toNat 0 - 1)=u.1.getD E[x].t.toNat 0 - 1:=i64w (by omega) (by omega);have hka:kaA s.2[i] u E[x]=(u.1.set E[x].t.toNat (u.1.getD E[x].t.toNat 0 - 1),if u.1.getD E[x].t.toNat 0 - 1=0 then u.2++[E[x].t]else u.2):=by unfold kaA;rw[yl0 he]
      rw[hka]at hM2 hu2;have hcl2:=hM2.c.le;have hul2:=hM.c.le;refine⟨⟨t1,by omega,by omega⟩,zae htl ⟨⟨t1,by omega,by omega⟩,zae htl ⟨⟨t1,by omega,by omega⟩,?_⟩⟩⟩;rw[zbx];refine⟨_,by rw[ypd (by simp[avs,ens];omega)],?_⟩;rw[hv,ew];generalize u.1.getD E[x].t.toNat 0 - 1=z at *
      simp[go_sem];refine⟨fun hz=>⟨by omega,?_⟩,fun hz=>?_⟩
      ·rw[yl0 hz]at hM2 hu2;refine hn2 (x+1,(u.1.set E[x].t.toNat z,u.2++[E[x].t])) _ (Weak.to [3,4,7,10,63,64,65] [((1,0),1),((2,0),2),((93,0),4)] (by simp[mkSt,go_sem,e2])) ⟨by show x+1<=E.length;omega,hu2,hM2⟩ (by show E.length - (x+1)<E.length - x;omega)
      ·rw[yl1 hz]at hM2 hu2;refine hn2 (x+1,(u.1.set E[x].t.toNat z,u.2)) _ (Weak.to [3,4,7,10,63,64,65] [((1,0),1),((2,0),2),((4,0),4)] (by simp[mkSt,go_sem,e2])) ⟨by show x+1<=E.length;omega,hu2,hM2⟩ (by show E.length - (x+1)<E.length - x;omega)
     ·have hk1:kaA s.2[i] u E[x]=u:=by unfold kaA;rw[yl1 he]
      rw[hk1]at hM2 hu2;refine hn2 (x+1,u) _ (Weak.to [3,4,7,10,63,64,65] [((1,0),1),((2,0),2),((4,0),4)] (by simp[mkSt,go_sem,e2])) ⟨by show x+1<=E.length;omega,hu2,hM2⟩ (by show E.length - (x+1)<E.length - x;omega)
    ·have hxe:x=E.length:=by omega
     subst hxe;rw[ym4]at hu;subst hu;simp[go_sem,e1];refine hn (i+1,E.foldl (kaA s.2[i]) s) _ (Weak.to [3,4,7,10] [((1,0),1),((2,0),2),((4,0),4)] (by simp[mkSt,go_sem])) ⟨?_,?_⟩ (by show N+1 - (i+1)<N+1 - i;omega)
     ·have:=hk.next hfitE hi
      rwa[show s.2.getD i 0=s.2[i] by rw[ylr,ylt hi];rfl]at this
     ·rw[show N+1 - (i+1)=f by omega,<- hl,show s.2.getD i 0=s.2[i] by rw[ylr,ylt hi];rfl]
   ·rw[yl1 (by omega)]at hl;rw[<- hl];simp[go_sem]
theorem zic{t:GTrans}(ok:t.ok):∀ x∈t.nf.arcs,x.fit t.st.toNat:=fun x hx=>by obtain⟨a1,a2,a3,a4,a5,a6,a7,a8,a9⟩:=(zx7 ok).arcs x hx;have e:t.nf.st=t.st:=rfl;have:=ok.st1;exact⟨⟨a1,by omega⟩,a3,by omega⟩
theorem z4l(t:GTrans)(n:Nat)(hn:n<=90)(hn1:3<=n)(h:t.sm n)(hl:t.arcs.length<=19)(ok:t.ok):Sp P F.jt [enc t] (.pure (.bool (emC t))):=by
 have kn:=zf6 t n hn hn1 h hl (by have:=ok.il;have:=ok.st2;omega) (by have:=ok.fl;have:=ok.st2;omega);rw[yl0 ok,yl0 ok]at kn;have hst:t.nf.st=(t.st.toNat:Nat):=by have:=ok.st1;show t.st=_;omega
 have hal:=zkp t;obtain⟨s,hk,hs⟩:=zjf t.nf t.st.toNat hst (by have:=ok.st2;omega) (by omega) (zic ok);have hsp:=(zv9 (t:=t.nf) (zic ok) hk).1;have hb:decide ((s.2.length:Int)<t.st)=emC t:=by
  have hst1:=ok.st1;have e:((s.2.length:Int)<t.st) ↔ s.2.length<t.nf.st.toNat:=by show _ ↔ s.2.length<t.st.toNat;omega
  unfold emC;cases hc:cycF t.st.toNat (emP t.nf.arcs)
  ·rw[decide_eq_false_iff_not];intro h';have:=hsp.1 (e.1 h');rw[show t.nf.st.toNat=t.st.toNat from rfl,hc]at this;cases this
  ·rw[decide_eq_true_iff];exact e.2 (hsp.2 hc)
 refine Sp.vz c.jt fun _=>?_;simp[g.jt,go_sem];refine zab kn ?_;simp[go_sem];refine zab hs ?_;simp[go_sem];exact hb
theorem zlv(l:List GW)(hl:l.length<=2147483648):Sp P F.bn [.sl (ens l)] (.fresh 8 (ens l)):=by
 cases l with
 | nil =>
  refine Sp.nilcase ?_ ?_
  ·refine Sp.vz c.bn fun _=>?_;simp[g.bn,go_sem]
  ·refine Sp.vz c.bn fun _=>?_;simp[g.bn,go_sem,LIM]
 | cons x l =>
  refine Sp.vz c.bn fun _=>?_;simp at hl;simp[g.bn,go_sem,LIM,hl]
theorem zw4:g.ar=.seq (.reg [⟨some 3,.box 8 (.t 0),none⟩,⟨some 6,.alloc 8 (.agg [.p (.bool false),.nil,.nil,.p (.int .i64 0),.p (.bool false),.p (.int .u64 0),.nil,.nil]),none⟩,⟨some 7,.mv (.c (.p (.int .i64 0))),none⟩] [[0],[],[7]]) zzh:=rfl
theorem ykb{σ : Sg}{I J N:Nat}(hJ:0<J)(h0 : σ 91 0=(900003,0))(h1:∀ g,1<=g -> σ 800003 g=(900003,g)):((famU I J N).set 0 (some ⟨1,((List.range J).map (rowU N 0)).set 0 (.own 91 0 0 N)⟩)).map (Option.map (subO σ))=famR I J N:=by
 refine yp4 fun i=>?_;rw[yme,ypg];by_cases hi:i<I
 ·rw[zy0 hi];by_cases h:i=0
  ·subst h;rw[yl0 rfl,yl0 (by simp[famU];omega)];simp only[yp0,subO,zbz,yox]
   congr 3
   refine yp4 fun j=>?_;rw[yme,ypg];by_cases hj:j<J
   ·rw[yme (f:=rowV N 0),ync hj];by_cases h':j=0
    ·subst h';rw[yl0 rfl,yl0 (by simp;omega)];simp[Go.Ab.sub,h0,rowV]
    ·rw[yl1 (ymc h'),yme,ync hj];simp[Go.Ab.sub,h1 j (by omega),rowV,rowU]
   ·rw[yn4 (by simp;omega:(List.map (rowV N 0) (List.range J)).length<=j),yl1 (fun e=>hj (by omega)),yn4 (by simp;omega:(List.map (rowU N 0) (List.range J)).length<=j)];rfl
  ·rw[yl1 (ymc h)];unfold famU;rw[yme,ync hi];simp only[yp0,subO,zbz,ynf]
   congr 3
   refine ymu fun j _=>?_;have:1<=i*J:=yod (by omega) hJ;simp only[yob,Go.Ab.sub,rowU,rowV,h1 (i*J+j) (by omega)]
 ·rw[yn4 (by simp[famR];omega:(famR I J N).length<=i)];by_cases h:0=i
  ·subst h;rw[yl0 rfl,yl1 (by simp[famU];omega)];rfl
  ·rw[yl1 h,yn4 (by simp[famU];omega:(famU I J N).length<=i)];rfl
theorem yjz{σ : Sg}(h:∀ g,σ 800002 g=(900002,g))(J I:Nat):subL σ ((List.range I).map (outU J))=(List.range I).map (outV J):=by rw[zbz,ynf];refine ymu fun j _=>?_;simp only[yob,outU,outV,Go.Ab.sub,h]
def w1S(t:GTrans)(wx wy:List Int)(ord:List Nat):St :=
 ⟨[(1,.p (.sl (ens wx))),(2,.p (.sl (ens wy))),(3,.ptr 3 0 0 0),(6,.ptr 6 0 0 0),(9,.p (.sl (ens (toI ord))))],[(3,[some ⟨8,[.p (enc t)]⟩]),(6,[some ⟨8,[z8]⟩]),(DEAD,[none])]⟩
def w2S(t:GTrans)(wx wy:List Int)(I J N:Nat)(T:List (List GW))(ord:List Nat):St :=
 ⟨[(1,.p (.sl (ens wx))),(2,.p (.sl (ens wy))),(3,.ptr 3 0 0 0),(6,.ptr 6 0 0 0),(9,.p (.sl (ens (toI ord)))),(10,.ptr 900000 0 0 0)],hpT t wx wy I J N T++[(3,[some ⟨8,[.p (enc t)]⟩]),(6,[some ⟨8,[z8]⟩]),(DEAD,[none])]⟩
section
variable {t:GTrans} {wx wy:List Int} {I J N:Nat} {ord:List Nat} (hst:t.st=(N:Int)) (hN:N<=1000) (hI:I=wx.length+1) (hJ:J=wy.length+1) (lI:I<=1000) (lJ:J<=1000) (R:Exit->St->Option FA->Prop)
include hst hN hI hJ lI lJ
theorem yba{A:Option FA}(hn:∀ s,Weak s (u2S t wx wy I J N ord I)->MR P 132 z1h.er s A R):MR P 132 zsp.er (w1S t wx wy ord) A R:=by
 have e1:IntKind.i64.wrap ((wx.length:Int)+1)=(I:Int):=(i64w (by omega) (by omega)).trans (by omega);unfold zsp yes wtA5;refine MR.gseq ?_;generalize z1h=W at *
 generalize hL:GC.loop g.nj=L at *
 simp[w1S,go_sem];refine MR.gseq ?_;subst hL;simp[go_sem,e1];refine ybe (t:=t) (wx:=wx) (wy:=wy) (I:=I) (J:=J) (N:=N) (ord:=ord) hst hN lJ lI hJ ((Weak.nilCell (s0:=52) (g0:=0) (i:=10) (s:=800001) (sz:=1) rfl).trans (Weak.planTo' [1,2,3,6,9,10,55,56] [(3,[(3,0)]),(6,[(6,0)]),(800000,[(52,0)]),(800001,[(800001,0)]),(800002,[]),(800003,[])] ?_ (fun σ => σ 3 0=(3,0) /\ σ 6 0=(6,0) /\ σ 52 0=(800000,0) /\ σ 800001 0=(800001,0)) ?_ ?_)) ?_
 ·simp[zir,zrf,zg5,PINB,DEAD,St.alloc,St.put,St.setObj]
 ·simp[sgP,ziz,zf5,St.site,look,St.alloc,St.put,St.setObj]
 ·rintro σ ⟨s1,s2,s3,s4⟩;simp[hpP,catS,Go.Ab.sub,subO,subL,St.get,look,St.site,u2S,s1,s2,s3,s4,tabU,z8,zl0,St.alloc,St.put,St.setObj,AV.cells];exact⟨rfl,rfl,rfl⟩
 ·simp[go_sem];exact hn _ (Weak.refl _)
theorem yeu{T:List (List GW)}(hini:t.ini.length=N)(hT:T=t.ini::List.replicate (I*J - 1) (List.replicate N t.ring.zero))(hn:∀ s,Weak s (w2S t wx wy I J N T ord)->MR P 132 z1i.er s none R):MR P 132 z1h.er (u2S t wx wy I J N ord I) none R:=by
 have i1:0<I:=by omega
 have j1:0<J:=by omega
 have e1:((famU I J N)[0]?).getD none=some ⟨1,(List.range J).map (rowU N 0)⟩:=by unfold famU;rw[yme,ync i1];simp
 have r1:(List.map (outU J) (List.range I))[0]?=some (outU J 0):=by rw[yme,ync i1];rfl
 have r2:(List.map (rowU N 0) (List.range J))[0]?=some (rowU N 0 0):=by rw[yme,ync j1];rfl
 unfold z1h;refine MR.gseq ?_;generalize z1i=W at *
 simp[u2S,go_sem,tabU,i1];rw[zbx];refine⟨_,r1,?_⟩;simp[go_sem,outU];refine zcw (zlv t.ini (by omega)) (by simp[go_sem]) ⟨zej _ _ rfl,by decide,by simp[ens,LIM];omega⟩ _ rfl ?_;have hd:(famC (zTbl t N (I*J))).drop 1=famC (List.replicate (I*J - 1) (List.replicate N t.ring.zero)):=by unfold famC zTbl;rw[<- List.map_drop,yr3]
 have hTf:famC T=some ⟨8,avs t.ini⟩::famC (List.replicate (I*J - 1) (List.replicate N t.ring.zero)):=by rw[hT];rfl
 have fin:∀ hp:List Site,hp=[(800002,(famU I J N).set 0 (some ⟨1,(List.map (rowU N 0) (List.range J)).set 0 (.own 91 0 0 N)⟩)),(91,[some ⟨8,avs t.ini⟩]),(3,[some ⟨8,[.p (enc t)]⟩]),(6,[some ⟨8,[z8]⟩]),(800000,[some ⟨11,[tabU t wx wy I]⟩]),(800001,[some ⟨1,List.map (outU J) (List.range I)⟩]),(800002,famU I J N),(800003,famC (zTbl t N (I*J))),(DEAD,[none])] ->
   Weak ⟨[(1,.p (.sl (ens wx))),(2,.p (.sl (ens wy))),(3,.ptr 3 0 0 0),(6,.ptr 6 0 0 0),(9,.p (.sl (ens (toI ord)))),(10,.ptr 800000 0 0 0)],hp⟩ (w2S t wx wy I J N T ord):=fun hp e=>by
  subst e;refine Weak.planTo' [1,2,3,6,9,10] [(900000,[(800000,0)]),(900001,[(800001,0)]),(900002,[(800002,0)]),(900003,[(91,0),(800003,1)]),(3,[(3,0)]),(6,[(6,0)])] ?_ (fun σ => σ 3 0=(3,0) /\ σ 6 0=(6,0) /\ σ 800000 0=(900000,0) /\ σ 800001 0=(900001,0)/\(∀ g,σ 800002 g=(900002,g)) /\ σ 91 0=(900003,0)/\(∀ g,1<=g -> σ 800003 g=(900003,g))) ?_ ?_
  ·simp[zir,zrf,zg5,PINB,DEAD]
  ·simp[sgP,ziz,zf5,St.site,look];intro g hg;have:¬ g=0:=by omega
   simp[this];omega
  ·rintro σ ⟨s1,s2,s3,s4,s5,s6,s7⟩;simp[hpP,catS,Go.Ab.sub,subO,subL,St.get,look,St.site,w2S,hpT,s1,s2,s3,s4,s6,tabU,tabV,z8,yjz s5,ykb j1 s6 s7,hd,zme,hTf,zqu]
 cases hfl:(ens t.ini).all PV.flat
 ·simp[go_sem,killAll,e1];refine⟨j1,?_⟩;rw[zbx];refine⟨_,r2,?_⟩;simp[go_sem,hini];exact hn _ (fin _ rfl)
 ·simp[go_sem,e1];refine⟨j1,?_⟩;rw[zbx];refine⟨_,r2,?_⟩;simp[go_sem,hini];exact hn _ (fin _ rfl)
end
theorem yev{t:GTrans}{wx wy:List Int}{I J N:Nat}{ord:List Nat}{T T':List (List GW)}(R:Exit->St->Option FA->Prop)
  (hf:HSp P F.jv [.ptr 900000 0 0 0,.p (.sl (ens (toI ord)))] (hpT t wx wy I J N T) (.tup []) (hpT t wx wy I J N T'))
  (hn:∀ s,Weak s (w2S t wx wy I J N T' ord)->MR P 132 wtA9.er s none R):MR P 132 z1i.er (w2S t wx wy I J N T ord) none R:=by
 unfold z1i;refine MR.gseq' (MR.greg (zl9 2 [[],[]] ?_));generalize wtA9=W at *
 simp[w2S,go_sem];refine MIns.cons (ztt hf ?_ ?_ ?_ ?_ (MIns.nil (hn _ ?_)))
 ·simp[go_sem]
 ·simp[zo3,St.site,look,hpT]
 ·rfl
 ·show(true&&hpOk [900000,900001,900002,900003] (hpT t wx wy I J N T)&&true&&hpOk [900000,900001,900002,900003] (hpT t wx wy I J N _))=true;rw[zp8,zp8];rfl
 ·refine Weak.toF [1,2,3,6,9,10] [900000,900001,900002,900003] [((3,0),3),((6,0),6)] ?_;simp[go_sem,w2S,hpT,tabV,z8];exact zas I J N T'
def w3S(t:GTrans)(wx wy:List Int)(I J N:Nat)(T:List (List GW))(p:Nat)(v:GW)(k:Nat):St :=
 ⟨[(3,.ptr 3 0 0 0),(6,.ptr 6 0 0 0),(12,.ptr 12 0 0 0),(110,.own 900003 p 0 N),(111,.p (.int .i64 N)),(112,.p (.int .i64 k))],hpT t wx wy I J N T++[(3,[some ⟨8,[.p (enc t)]⟩]),(6,[some ⟨8,[z8]⟩]),(12,[some ⟨8,[.p (enc v)]⟩]),(DEAD,[none])]⟩
theorem ybb{t:GTrans}{M:Meas t.ring}(mp:MeasP M)(hr:t.ring.ok=true){B z:Nat}{wx wy:List Int}{I J N:Nat}{T:List (List GW)}{p:Nat}(hp:p<T.length){row:List GW}(hrow:T.getD p []=row)(hl:row.length=N)(hf:t.fin.length=N)(lN:N<=1000)
  (vr:vb M B row) (vf:vb M z t.fin) (hlim:B+z+1+N<=M.lim) {Q:Exit->St->Prop} {ks:List Kt} {st:St} (hw:Weak st (w3S t wx wy I J N T p t.ring.zero 0))
  (hx:zn9 P 132 Q (zek 5 ks) 5 (w3S t wx wy I J N T p (sumW t.ring row t.fin) N)):vL P 132 Q g.nk ks st:=by
 refine zai (S:=fun k:Nat=>w3S t wx wy I J N T p (sumN t.ring row t.fin k) k) (I:=fun k=>k<=N) (m:=fun k=>N - k) 0 (by simpa[sumN]using hw) (by omega) ?_;rintro k h1 R hn hr' hx';have e2:=zj5 hp;rw[hrow]at e2;by_cases hk:k<N
 ·have e1:=i64s k (by omega);have hkr:k<row.length:=by omega
  have hkf:k<t.fin.length:=by omega
  have hs:=zjc (r:=t.ring) hkr hkf;have hv:=zqt (M:=M) hr vr vf k (by omega) (by omega);have a1:=vr _ (yl4 hkr);have a2:=vf _ (yl4 hkf);have kt:=mp.timesP (n:=B+z) (by omega) a1.1 a2.1 (M.mono a1.2 (by omega)) (M.mono a2.2 (by omega));have ct:=za8 a1.1 a2.1;have kp:=mp.plusP (n:=B+z+1+k) (by omega) hv.1 ct hv.2 (M.mono (M.times a1.1 a2.1 a1.2 a2.2) (by omega));generalize sumN t.ring row t.fin k=v at *
  simp[g.nk,w3S,go_sem,hk,hpT,tabV,e2];refine⟨by omega,zae hkr ?_⟩;refine zae hkf ?_;refine zab kt ?_;simp[go_sem];refine zab kp ?_;simp[go_sem,e1];refine hn (k+1) _ (Weak.toF [3,6,12,110,111,112] [900000,900001,900002,900003] [((3,0),3),((6,0),6),((12,0),12)] ?_) (by omega) (by omega);simp[go_sem,w3S,hpT,tabV,z8,hs];exact zas I J N T
 ·have hk':k=N:=by omega
  subst hk';rw[zjd (by omega)];simp[g.nk,w3S,go_sem];refine hx' 5 _ ?_;simpa[w3S,go_sem]using hx
theorem yet{t:GTrans}{M:Meas t.ring}(mp:MeasP M)(hr:t.ring.ok=true){B z:Nat}{wx wy:List Int}{I J N:Nat}{ord:List Nat}{T:List (List GW)}(hI:I=wx.length+1)(hJ:J=wy.length+1)(lI:I<=1000)(lJ:J<=1000)(hlen:T.length=I*J)
  {row:List GW} (hrow:T.getD (wx.length*J+wy.length) []=row) (hl:row.length=N) (hf:t.fin.length=N) (lN:N<=1000) (vr:vb M B row) (vf:vb M z t.fin) (hlim:B+z+1+N<=M.lim) (R:Exit->St->Option FA->Prop)
  (hn:∀ s,retP [(6,some 8),(7,none)] (.pure (.tup [enc (sumW t.ring row t.fin),.int .i64 0])) .ret s->R .ret s none):MR P 132 wtA9.er (w2S t wx wy I J N T ord) none R:=by
 have i1:wx.length<I:=by omega
 have j1:wy.length<J:=by omega
 have hp:wx.length*J+wy.length<T.length:=by rw[hlen];exact z3j i1 j1
 have e1:=zj4 (N:=N) (J:=J) i1;have e2:=zj5 hp;have r1:(List.map (outV J) (List.range I))[wx.length]?=some (outV J wx.length):=by rw[yme,ync i1];rfl
 have r2:(List.map (rowV N (wx.length*J)) (List.range J))[wy.length]?=some (rowV N (wx.length*J) wy.length):=by rw[yme,ync j1];rfl
 refine MR.of_vm ?_;unfold wtA9 wtA8 wtA6;generalize hW:wtA7=W;generalize hL:GC.loop g.nk=L;simp[w2S,go_sem,hpT,tabV];refine zab (zgh t.ring) ?_;simp[go_sem,i1,j1];rw[zbx];refine⟨_,r1,?_⟩;simp[go_sem,outV,e1,i1,j1];rw[zbx];refine⟨_,r2,?_⟩;simp[go_sem,rowV,e1,e2];subst hL;simp[go_sem];refine ybb (t:=t) (wx:=wx) (wy:=wy) (I:=I) (J:=J) (T:=T) mp hr hp hrow hl hf lN vr vf hlim (Weak.toF [3,6,12,110,111,112] [900000,900001,900002,900003] [((3,0),3),((6,0),6),((12,0),12)] ?_) ?_
 ·simp[go_sem,w3S,hpT,tabV,z8];exact zas I J N T
 ·subst hW;generalize sumW t.ring row t.fin=v at *
  simp[go_sem,wtA7,w3S,hpT,tabV];refine hn _ ?_;simp[go_sem,toPV]
theorem ybh{l:List Int}(h:∀ y∈l,0<=y):toI (l.map Int.toNat)=l:=by unfold toI;rw[ynf];refine(ymu fun y hy=>?_).trans (List.map_id l);have:=h y hy;simp only[yob,id];omega
theorem z6p{r:GRing}{ini:List GW}{K N:Nat}(h:0<K):T0 r ini K N=ini::List.replicate (K - 1) (List.replicate N r.zero):=by obtain⟨K,rfl⟩:∃ k,K=k+1:=⟨K - 1,by omega⟩;unfold T0;rw[yok];rfl
theorem z51{u:GTrans}(ok:u.ok):ckT u.ring u:=by have:=ok.fl;refine⟨rfl,ok.ring,⟨ok.fin,by omega⟩,fun x hx=>?_⟩;obtain⟨a1,a2,a3,a4,a5,a6,a7,a8,a9⟩:=ok.arcs x hx;have:=ok.st1;exact⟨a9,⟨a1,by omega⟩,a3,by omega⟩
theorem zmk(t:GTrans)(M:Meas t.nf.ring)(mp:MeasP M){z n:Nat}(hn:n<=90)(hn1:3<=n)(h:t.sm n)(hl:t.arcs.length<=19)(ok:t.ok)(ht:t.nf.fits M z)(hML:M.lim<=1000000)(wx wy:List Int)(hwx:zdx wx t.i)(hwy:zdx wy t.o)(hc:emC t=false)
  (hlim:z+(wx.length+1)*((wy.length+1)*(t.st.toNat*sLv z t.nf.arcs))+z+1+t.st.toNat<=M.lim) :
  Sp P F.ar [enc t,.sl (ens wx),.sl (ens wy)] (.pure (.tup [enc (wgt t.nf wx wy),.int .i64 0]))/\(wgt t.nf wx wy).chk t.nf.ring/\M.mb (z+(wx.length+1)*((wy.length+1)*(t.st.toNat*sLv z t.nf.arcs))+z+1+t.st.toNat) (wgt t.nf wx wy)/\(wgt t.nf wx wy).sm 400000:=by
 have uok:=zx7 ok;have hal:=zkp t;have s1:=ok.st1;have s2:=ok.st2;have kn:=zf6 t n hn hn1 h hl (by have:=ok.il;omega) (by have:=ok.fl;omega);rw[yl0 ok,yl0 ok]at kn;obtain⟨N,hN⟩:∃ N:Nat,N=t.st.toNat:=⟨_,rfl⟩;have hst:t.nf.st=(N:Int):=by show t.st=_;omega
 have hN64:N<=64:=by omega
 obtain⟨s,hk,hs⟩:=zjf t.nf N hst (by omega) (by omega) (by rw[hN];exact zic ok);have hspec:=zv9 (t:=t.nf) (zic ok) (by rw[hN]at hk;exact hk);have hnl:¬ s.2.length<t.nf.st.toNat:=fun hlt=>by have:=hspec.1.1 hlt;have e:emC t=cycF t.st.toNat (emP t.nf.arcs):=rfl;rw[hc]at e;rw[show t.nf.st.toNat=t.st.toNat from rfl,<- e]at this;cases this
 have ho:=hspec.2 hnl;have hoI:toI (s.2.map Int.toNat)=s.2:=ybh fun y hy=>(hk.c.rng y hy).1;have hol:=ho.len;rw[ymx]at hol;have holt:∀ q∈s.2.map Int.toNat,q<N:=fun q hq=>by rw[hN];exact(ho.all q).1 hq
 generalize hord:s.2.map Int.toNat=ord at *
 rw[<- hoI]at hs;have hordl:ord.length=s.2.length:=by rw[<- hord,ymx]
 have hordl2:ord.length<=N:=by rw[hordl,hN];exact hol
 have hNl:¬ ord.length<N:=by rw[hordl,hN];exact hnl
 have hi:t.nf.ini.length=N:=by have:=ok.il;show t.ini.length=N;omega
 have hf:t.nf.fin.length=N:=by have:=ok.fl;show t.fin.length=N;omega
 have fo:fillOk t.nf M z:=⟨uok.ring,z51 uok,mp,fun x hx=>(ht.arcs x hx).1,fun x hx=>by
  obtain⟨a1,a2,a3,a4,a5,a6,a7,a8,a9⟩:=uok.arcs x hx;have:=uok.i1;have:=uok.o1
  exact⟨⟨by omega,by omega⟩,by omega,by omega⟩,by omega,hML⟩
 have hx1:=hwx.2.1;have hy1:=hwy.2.1;have hK:0<plN wx wy:=by have:=zvq (ymb wx.length) (ymb wy.length);omega
 have hck:ckL t.nf.ring t.nf.st.toNat t.nf.ini:=⟨uok.ini,by rw[hi,hst];rfl⟩;have hT0:=yhv (z51 uok) hck hK;have hv0:vbT M z (T0 t.nf.ring t.nf.ini (plN wx wy) N):=by
  intro l hl;rw[z6p hK]at hl;rcases yl7.1 hl with rfl|hl
  ·exact ht.ini.1
  ·rw[ypy hl];exact zw2 M uok.ring _ _
 rw[show t.nf.st.toNat=N by rw[hst];rfl]at hT0;have hfw:=yda (r:=t.nf.ring) (t:=t.nf) uok.ring (z51 uok) (wx:=wx) (wy:=wy) ho hck;rw[show t.nf.st.toNat=N by rw[hst];rfl]at hfw;have hsl:ord.length*sLv z t.nf.arcs<=t.st.toNat*sLv z t.nf.arcs:=ylw _ (by omega);have hsl2:(wx.length+1)*((wy.length+1)*(ord.length*sLv z t.nf.arcs))<=(wx.length+1)*((wy.length+1)*(t.st.toNat*sLv z t.nf.arcs)):=yn9 _ (yn9 _ hsl);have hfill:=z9g fo (wx:=wx) (wy:=wy) (I:=wx.length+1) (J:=wy.length+1) (N:=N) rfl rfl (by rw[hst];rfl) (by omega) (by omega) (B:=z) (T:=T0 t.nf.ring t.nf.ini (plN wx wy) N) (ord:=ord) holt (by omega) (by rw[show t.nf.st.toNat=N by rw[hst];rfl];exact hT0) hv0 (by omega);obtain⟨t1,t2⟩:=z5a fo (wx:=wx) (wy:=wy) (ord:=ord) (B:=z) (T:=T0 t.nf.ring t.nf.ini (plN wx wy) N) (by rw[show t.nf.st.toNat=N by rw[hst];rfl];exact hT0) hv0 (wx.length+1) (yl8 _);obtain⟨f1,f2⟩:=hfw;have hp:wx.length*(wy.length+1)+wy.length<plN wx wy:=zvq (yl8 _) (yl8 _);have hrow:=f1.get hp;have hvr:=t2.get (wx.length*(wy.length+1)+wy.length);have hvf:vb M z t.nf.fin:=ht.fin.1;rw[<- f2];have hW:=zqt (M:=M) uok.ring hvr hvf N (by rw[hrow.2];exact yl8 _) (by rw[hf];exact yl8 _);rw[zjd (by rw[hrow.2];exact yl8 _)]at hW;refine⟨?_,hW.1,M.mono hW.2 (by omega),mp.smP (n:=z+(wx.length+1)*((wy.length+1)*(ord.length*sLv z t.nf.arcs))+z+1+N) (by omega) hW.1 hW.2⟩;clear hW;have htail:=fun R hR=>yet (t:=t.nf) mp uok.ring (wx:=wx) (wy:=wy) (ord:=ord) (N:=N) (T:=flT t.nf.ring wx wy t.nf.arcs ord (T0 t.nf.ring t.nf.ini (plN wx wy) N) (wx.length+1)) rfl rfl (by omega) (by omega) f1.1 rfl hrow.2 hf (by omega) hvr hvf (by omega) R hR;have hname:=fun R hR=>yeu (t:=t.nf) (wx:=wx) (wy:=wy) (ord:=ord) (N:=N) hst (by omega) rfl rfl (by omega) (by omega) R hi (z6p (r:=t.nf.ring) (ini:=t.nf.ini) (N:=N) hK) hR;have hbuild:=fun R hR=>yba (t:=t.nf) (wx:=wx) (wy:=wy) (ord:=ord) (N:=N) hst (by omega) rfl rfl (by omega) (by omega) R (A:=none) hR;have hu:t.nf.fin.length=N:=hf;have hui:t.nf.i=t.i:=rfl;have huo:t.nf.o=t.o:=rfl;have vx:=zi5 wx t.i (by omega);have vy:=zi5 wy t.o (by omega);have dx:decide ((1<=t.i/\t.i<=32)/\wx.length<=256/\∀ x∈wx,1<=x/\x<=t.i)=true:=decide_eq_true hwx;have dy:decide ((1<=t.o/\t.o<=32)/\wy.length<=256/\∀ x∈wy,1<=x/\x<=t.o)=true:=decide_eq_true hwy;rw[dx]at vx;rw[dy]at vy;rw[<- hui]at vx;rw[<- huo]at vy;generalize sumW t.nf.ring _ t.nf.fin=W at *
 generalize flT t.nf.ring wx wy t.nf.arcs ord (T0 t.nf.ring t.nf.ini (plN wx wy) N) (wx.length+1)=T1 at *
 generalize T0 t.nf.ring t.nf.ini (plN wx wy) N=T00 at *
 have hl0:¬ ((ord.length:Int)<(N:Int)):=by omega
 refine Sp.of_mr c.ar (by simp) ?_;generalize hR:(fun(ex:Exit) (s:St) (_:Option FA)=>retP [(6,some 8),(7,none)] (.pure (.tup [enc W,.int .i64 0])) ex s)=R;have hfin:∀ s,retP [(6,some 8),(7,none)] (.pure (.tup [enc W,.int .i64 0])) .ret s->R .ret s none:=fun s hs=>by subst hR;exact hs
 have hmain:MR P 132 zsp.er (w1S t.nf wx wy ord) none R:=hbuild R fun s hw=>MR.weak hw (hname R fun s hw=>MR.weak hw (yev R hfill fun s hw=>MR.weak hw (htail R hfin)));clear hbuild hname htail hfill hfin hR;rw[zw4];unfold zzh z1f z1g wtA4 wtA3 wtA2 wtA1;generalize zsp=W13 at *
 refine MR.gseq ?_;simp[go_sem];refine MR.gseq ?_;simp[go_sem];refine zab kn ?_;generalize t.nf=u at *
 simp[go_sem];refine MR.gseq ?_;simp[go_sem];refine zab hs ?_;simp[go_sem];refine MR.gseq ?_;simp[go_sem,zdp,hst,hl0];refine zab vx ?_;simp[go_sem];refine zab vy ?_;simp[go_sem];refine MR.weak (Weak.to [1,2,3,6,9] [((3,0),3),((6,0),6)] ?_) hmain;simp[go_sem,w1S,mkSt,z8,hst]
theorem zu0(t:GTrans){n:Nat}(hn:n<=90)(hn1:3<=n)(h:t.sm n)(hl:t.arcs.length<=19)(li:t.ini.length<=1000000)(lf:t.fin.length<=1000000)(ok:¬ t.ok)(wx wy:List Int) :
  Sp P F.ar [enc t,.sl (ens wx),.sl (ens wy)] (.pure (.tup [enc gw0,.int .i64 4])):=by
 have kn:=zf6 t n hn hn1 h hl li lf;rw[yl1 ok,yl1 ok]at kn;obtain⟨s,hk,hs⟩:=zjf zkz 0 rfl (by omega) (by simp[zkz]) (by simp[zkz]);refine Sp.vz c.ar fun _=>?_;rw[zw4];unfold zzh z1f z1g wtA4 wtA3;generalize zsp=W13 at *
 generalize wtA2=W2 at *
 generalize zkz=u at *
 simp[go_sem];refine zab kn ?_;simp[go_sem];refine zab hs ?_;simp[go_sem,gw0,gr0]
theorem zpe{t:GTrans}{n:Nat}(hn:n<=90)(hn1:3<=n)(h:t.sm n)(hl:t.arcs.length<=19)(ok:t.ok):∃ s:List Int,(((s.length:Int)<t.nf.st) ↔ emC t=true)/\Sp P F.du [enc t.nf] (.pure (.sl (ens s))):=by
 have hst:t.nf.st=(t.st.toNat:Nat):=by have:=ok.st1;show t.st=_;omega
 have hal:=zkp t;obtain⟨s,hk,hs⟩:=zjf t.nf t.st.toNat hst (by have:=ok.st2;omega) (by omega) (zic ok);have hsp:=(zv9 (t:=t.nf) (zic ok) hk).1;refine⟨s.2,?_,hs⟩;have:((s.2.length:Int)<t.nf.st) ↔ s.2.length<t.nf.st.toNat:=by have:=ok.st1;rw[hst];show _ ↔ s.2.length<t.st.toNat;omega
 rw[this,hsp];rfl
theorem zu1(t:GTrans){n:Nat}(hn:n<=90)(hn1:3<=n)(h:t.sm n)(hl:t.arcs.length<=19)(ok:t.ok)(wx wy:List Int)(hc:emC t=true) :
  Sp P F.ar [enc t,.sl (ens wx),.sl (ens wy)] (.pure (.tup [enc gw0,.int .i64 10])):=by
 have kn:=zf6 t n hn hn1 h hl (by have:=ok.il;have:=ok.st2;omega) (by have:=ok.fl;have:=ok.st2;omega);rw[yl0 ok,yl0 ok]at kn;obtain⟨s,hk,hs⟩:=zpe hn hn1 h hl ok;have hlt:=hk.2 hc;generalize t.nf=u at *
 refine Sp.vz c.ar fun _=>?_;rw[zw4];unfold zzh z1f z1g wtA4 wtA3 wtA2;generalize zsp=W13 at *
 generalize wtA1=W1 at *
 simp[go_sem];refine zab kn ?_;simp[go_sem];refine zab hs ?_;simp[go_sem,hlt,gw0,gr0]
theorem zim(w:List Int)(m:Int)(hl:w.length<=9223372036854775807):Sp P F.bm [.sl (ens w),.int .i64 m] (.pure (.bool (decide ((1<=m/\m<=32)/\w.length<=256/\∀ x∈w,1<=x/\x<=m)))):=by
 refine Sp.vz c.bm fun _=>?_;simp[g.bm,go_sem]
 refine zai (S:=fun k:Nat=>mkSt [(0,.p (.sl (ens w))),(1,.p (.int .i64 m)),(7,.p (.sl (ens w))),(8,.p (.int .i64 w.length)),(9,.p (.int .i64 k))] []) (I:=fun k=>k<=w.length/\∀ i,(h:i<w.length)->i<k->1<=w[i]/\w[i]<=m) (m:=fun k=>w.length - k) 0
  (Weak.to [0,1,7,8,9] [] (by simp[go_sem])) ⟨by omega,fun i _ h=>by omega⟩ ?_
 rintro k ⟨h1,h2⟩ R hn hr hx;simp[g.ox,mkSt,go_sem];refine⟨fun hk=>zae hk ?_,fun hk=>hx _ _ ?_⟩
 ·have e1:=i64s k (by omega);have hf:∀ h:w[k]<1\/m<w[k],¬ ∀ x∈w,1<=x/\x<=m:=fun h hh=>by have:=hh w[k] (yl4 hk);omega
  refine⟨fun h=>hr _ (by simp[go_sem,hf (.inl h)]),fun h=>⟨fun h'=>hr _ (by simp[go_sem,hf (.inr h')]),fun h'=>hn (k+1) _ (Weak.to [0,1,7,8,9] [] (by simp[go_sem,e1])) ⟨by omega,fun i hi hik=>?_⟩ (by omega)⟩⟩;by_cases e:i=k
  ·subst e;exact⟨h,h'⟩
  ·exact h2 i hi (by omega)
 ·have hk':k=w.length:=by omega
  have ha:∀ x∈w,1<=x/\x<=m:=fun x hx=>by obtain⟨i,hi,rfl⟩:=ynb.1 hx;exact h2 i hi (by omega)
  have hd:decide (∀ x∈w,1<=x/\x<=m)=true:=decide_eq_true ha;simp[go_sem,hd];refine⟨fun h1=>⟨fun h2=>by simp[h1,h2];omega,fun h2 _ h3=>by omega⟩,fun h1 h2=>by omega⟩
theorem zuz(t:GTrans){n:Nat}(hn:n<=90)(hn1:3<=n)(h:t.sm n)(hl:t.arcs.length<=19)(ok:t.ok)(wx wy:List Int)(lx:wx.length<=9223372036854775807)(ly:wy.length<=9223372036854775807)(hc:emC t=false)(hw:¬ (zdx wx t.i/\zdx wy t.o)) :
  Sp P F.ar [enc t,.sl (ens wx),.sl (ens wy)] (.pure (.tup [enc gw0,.int .i64 9])):=by
 have kn:=zf6 t n hn hn1 h hl (by have:=ok.il;have:=ok.st2;omega) (by have:=ok.fl;have:=ok.st2;omega);rw[yl0 ok,yl0 ok]at kn;obtain⟨s,hk,hs⟩:=zpe hn hn1 h hl ok;have hlt:¬ ((s.length:Int)<t.nf.st):=fun hlt=>by have:=hk.1 hlt;rw[hc]at this;cases this
 have vx:=zim wx t.nf.i lx;have vy:=zim wy t.nf.o ly;have hui:t.nf.i=t.i:=rfl;have huo:t.nf.o=t.o:=rfl;rw[<- hui,<- huo]at hw;generalize t.nf=u at *
 refine Sp.vz c.ar fun _=>?_;rw[zw4];unfold zzh z1f z1g wtA4 wtA3 wtA2 wtA1;generalize zsp=W13 at *
 simp[go_sem];refine zab kn ?_;simp[go_sem];refine zab hs ?_;simp[go_sem,hlt];refine zab vx ?_;by_cases h1:zdx wx u.i
 ·have h2:¬ zdx wy u.o:=fun h2=>hw ⟨h1,h2⟩;rw[decide_eq_true (show(1<=u.i/\u.i<=32)/\wx.length<=256/\∀ x∈wx,1<=x/\x<=u.i from h1)];simp[go_sem];refine zab vy ?_;rw[decide_eq_false (show ¬ ((1<=u.o/\u.o<=32)/\wy.length<=256/\∀ x∈wy,1<=x/\x<=u.o) from h2)];simp[go_sem,gw0,gr0]
 ·rw[decide_eq_false (show ¬ ((1<=u.i/\u.i<=32)/\wx.length<=256/\∀ x∈wx,1<=x/\x<=u.i) from h1)];simp[go_sem,gw0,gr0]
def zzi(l:List Int)(m:Int)(most:Nat):List Int:=(l.take most).map fun x=>1+x % m
theorem zss(l:List Int)(m:Int)(most:Nat):(zzi l m most).length<=most:=by simp only[zzi,ymx,yms];omega
end Go.Ab
namespace Go.Ab
section
variable {r:GRing} (hr:r.ok=true) {t:GTrans} (ht:ckT r t) {wx wy:List Int}
end
def awN(n:Nat):GW:=.mk (rto (n:Rat)) 0 false 0 [] []
theorem yk0:aw1=awN 1:=rfl
theorem yac(a b:Nat):ar1.plus (awN a) (awN b)=awN (a+b):=by have:ar1.plus (awN a) (awN b)=zaq 1 (awN a) (awN b):=rfl;rw[this];simp only[zaq,yl2,awN,GW.q_mk,zbf,Rat.natCast_add]
theorem z6g(a b:Nat):ar1.times (awN a) (awN b)=awN (a*b):=by have:ar1.times (awN a) (awN b)=zao 1 (awN a) (awN b):=rfl;rw[this];simp only[zao,true_or,yl2,awN,GW.q_mk,zbf,Rat.natCast_mul]
theorem zza:ar1.zero=awN 0:=by
 have:ar1.zero=.mk gr0 0 false 0 [] []:=by simp[GRing.zero,ar1,GRing.ok]
 rw[this,awN,show((0:Nat):Rat)=0 from rfl,zca];rfl
theorem yd2{a b:Nat}(h:awN a=awN b):a=b:=by simp only[awN,GW.mk.injEq]at h;have:=yby h.1;exact Rat.natCast_inj.1 this
def awT:GTrans:=⟨ar1,1,1,1,[aw1],[aw1],[⟨0,1,0,0,aw1⟩,⟨0,0,1,0,aw1⟩]⟩
theorem yab:tidT ar1 awT.arcs=[⟨0,0,1,0,awN 1⟩,⟨0,1,0,0,awN 1⟩]:=by
 have:mrg GTArc.key (upT ar1) id (srt GTArc.key awT.arcs)=[⟨0,0,1,0,awN 1⟩,⟨0,1,0,0,awN 1⟩]:=by
  have h:([0,0,1,0]:List Int)<[0,1,0,0]:=by decide
  have h2:([0,1,0]:List Int)<[1,0,0]:=by decide
  simp[awT,srt,insR,mrg,mst,GTArc.key,upT,yk0,h,h2]
 unfold tidT;rw[this];have h:awN 1≠awN 0:=fun h=>by have:=yd2 h;omega
 simp[zza,h]
theorem z6e:awT.nf=⟨ar1,1,1,1,[awN 1],[awN 1],[⟨0,0,1,0,awN 1⟩,⟨0,1,0,0,awN 1⟩]⟩:=by rw[<- yab];rfl
theorem ykz:wgt awT.nf [1,1] [1,1]=awN 6:=by rw[z6e];simp[wgt,sumW,tabW,valW,zgf,rowW,sprN,accW,accS,addW,zda,emF,zsz,fitT,stp,zev,zza,yac,z6g]
section
variable {P:Program} {K:Ctx} {Z Z':Cz} {st st':St} {w w':World} {a:Act}
theorem Weak.freezeObj{s g n:Nat}{o:AObj}{ps:List PV}(ho:st.obj s g=some o)(hp:o.es.mapM (toPV st n)=some ps)(hd:(s,g)∉o.es.flatMap (deps st n)):Weak st ((killAll st (o.es.flatMap (deps st n))).setObj s g ⟨o.sz,ps.map .p⟩):=by
 intro K Z w a hs;generalize hids:o.es.flatMap (deps st n)=ids at hd;have hM:∀ b o,Z.M b=some o->Mx Z st w ids b=some o:=fun b o hb=>Mx_M hb;have hz:ZLe Z st { Z with M:=Mx Z st w ids } (killAll st ids):=(ZLe.killAll ids st).trans (ZLe.growM hM);have hh:HRep K { Z with M:=Mx Z st w ids } (killAll st ids) w:=by
  refine(HRep.killAll ids hs.heap).grow (Keep.refl w _) _ hM (fun b o hb=>?_) (fun b o hb=>?_) (fun s g o b ho hb=>?_)
  ·rcases zbq hb with h|⟨_,h,_⟩
   ·exact hs.heap.mem b o h
   ·exact h
  ·rcases zbq hb with h|⟨_,_,s,g,ob,_,e2,e3⟩
   ·exact .inl h
   ·exact .inr (hs.heap.own s g ob b e2 e3)
  ·obtain⟨ho1,ho2⟩:=zcu ids st ho;cases hm:Mx Z st w ids b with
   | none=>rfl
   | some y =>
    exfalso;rcases zbq hm with h|⟨_,_,s',g',ob,e1,e2,e3⟩
    ·rw[hs.heap.sep s g o b ho1 hb]at h;cases h
    ·obtain⟨rfl,rfl⟩:=hs.heap.inj s g s' g' o ob b ho1 e2 hb e3;exact ho2 e1
 have ho':=zfs ids ho hd;have hO:=hs.heap.objs s g o ho;have hlen:=zgu hp;have hcl:∀ l:List PV,(l.map AV.p).flatMap AV.cells=(l.flatMap PV.cells).map .p:=fun l=>by
  induction l with
  | nil=>rfl
  | cons q l ih=>rw[ylx,yly,ih,yly,yn0];cases q<;>rfl
 have key:(∀ b,Z.B s g=some b->∃ (cur:Array Value) (T:TypeId) (vals:List Value),w.heap[b]?=some (.cells cur T (0,0))/\PReps (Mx Z st w ids) (ps.flatMap PV.cells) vals /\
   (∀ (i:Nat) (v:Value),vals[i]?=some v->cur[i]?=some v)/\cur.size=Z.cap s g*o.sz/\o.es.length<=Z.cap s g/\Z.cap s g<=maxLen)/\(∀ p∈ps,p.sz=o.sz)/\∀ c∈ps.flatMap PV.cells,c.one=true:=by
  cases hb:Z.B s g with
  | none =>
   have h0:=hO.non hb;rw[h0]at hp;have:=zcl hp;subst this;exact⟨fun b hb=>(by cases hb),by simp,by simp⟩
  | some b =>
   obtain⟨cur,T,vals,k1,k2,k3,k4,k5,k6⟩:=hO.blk b hb;obtain⟨r1,r2,r3⟩:=zhu (w:=w) (n:=n) (ids:=ids) hO.pos (zgm hs.heap ids n) k2 hp hO.els hO.one (fun i hi=>by rw[<- hids];exact hi);exact⟨fun b' hb'=>(by cases hb';exact⟨cur,T,vals,k1,r1,k3,k4,k5,k6⟩),r2,r3⟩
 obtain⟨q1,q2,q3⟩:=key;have hss:=hh.same2 ho' (es:=ps.map .p) (by rw[ymx,hlen]) (fun x hx=>?_) (fun c hc=>?_) (fun b hb=>?_)
 ·refine⟨{ Z with M:=Mx Z st w ids },⟨fun u=>?_,hs.defers,hs.size,hss⟩,.of_zle (hz.trans (ZLe.setObj _ _ s g o ⟨o.sz,ps.map .p⟩ ho' rfl (by simp[hlen])))⟩;rw[show((killAll st ids).setObj s g ⟨o.sz,ps.map .p⟩).get u=st.get u from zjx (s:=(killAll st ids).setObj s g ⟨o.sz,ps.map .p⟩) (t:=st) (zb6 ids st) u];exact ARep.mono (hz.trans (ZLe.setObj _ _ s g o ⟨o.sz,ps.map .p⟩ ho' rfl (by simp[hlen]))) (hs.slots u)
 ·obtain⟨p,hp',rfl⟩:=yl6.1 hx;exact q2 p hp'
 ·rw[hcl]at hc;obtain⟨p,hp',rfl⟩:=yl6.1 hc;exact q3 p hp'
 ·obtain⟨cur,T,vals,e1,e2,e3,e4,e5,e6⟩:=q1 b hb;refine⟨cur,T,vals,e1,?_,e3,e4,e5,e6⟩;rw[hcl];exact AReps.of_p e2
end
end Go.Ab
namespace Go.Ab
open Enc (enc)
attribute [local go_sem] zal Opd.slots
theorem zy9:awT.ok:=by
 refine⟨rfl,by decide,by decide,by decide,by decide,rfl,rfl,by decide,?_,?_,?_⟩
 ·intro x hx;simp only[awT,yl7,yn5,or_false]at hx;rcases hx with rfl|rfl
  ·exact⟨by decide,by decide,by decide,by decide,by decide,by decide,by decide,by decide,zw8⟩
  ·exact⟨by decide,by decide,by decide,by decide,by decide,by decide,by decide,by decide,zw8⟩
 ·intro w hw;simp[awT]at hw;subst hw;exact zw8
 ·intro w hw;simp[awT]at hw;subst hw;exact zw8
theorem z6d:awT.sm 3:=by
 refine⟨?_,?_,?_⟩
 ·intro w hw;simp[awT]at hw;subst hw;exact z6v
 ·intro w hw;simp[awT]at hw;subst hw;exact z6v
 ·intro x hx;simp only[awT,yl7,yn5,or_false]at hx;rcases hx with rfl|rfl<;>exact z6v
theorem z6f:emC awT=false:=by
 have:emC awT=cycF awT.st.toNat (emP awT.nf.arcs):=rfl;rw[this,z6e];show cycF 1 []=false
 decide
theorem z04:Sp P F.ar [enc awT,.sl (ens ([1,1]:List Int)),.sl (ens ([1,1]:List Int))] (.pure (.tup [enc (awN 6),.int .i64 0])):=by
 obtain⟨M,hM,mp,hf⟩:=zyc zy9 (fun w hw=>by
  have:w=aw1:=by simpa[GTrans.wts,awT]using hw
  rw[this];exact z6v.li) (by simp[GTrans.wts,awT])
 have e:awT.st.toNat*sLv (awT.arcs.length+100) awT.nf.arcs=105:=by rw[z6e];rfl
 have:=zmk awT M mp (z:=awT.arcs.length+100) (n:=3) (by omega) (by omega) z6d (by decide) zy9 hf (by omega) [1,1] [1,1] ⟨by decide,by decide,by decide⟩ ⟨by decide,by decide,by decide⟩ z6f (by
  rw[e,hM];decide)
 have:=this.1
 rwa[ykz]at this
theorem yhp:g.jm=.seq (.reg [⟨some 0,.mv (.c (.p (.bool false))),none⟩] [[0]]) awC5:=rfl
theorem z03:Sp P F.jm [] (.pure (.bool true)):=by
 have hv:=zst awT (z6d.mono (by omega)) (by decide) (by decide);rw[decide_eq_true zy9]at hv;have hl:=z4l awT 3 (by omega) (by omega) z6d (by decide) zy9;rw[z6f]at hl;have hw:=z04;have h1:=z3x ar1;rw[yco]at h1;have hof:=zhp 6 1 (by omega) (by omega) (by omega);rw[show Rat.divInt 6 1=((6:Nat):Rat) by decide]at hof;have h4:(rto ((6:Nat):Rat)).sm 1073741824:=⟨ylq (show(rto ((6:Nat):Rat)).num.length<=1 from zav (by decide)) (by omega),ylq (show(rto ((6:Nat):Rat)).den.length<=1 by decide) (by omega)⟩;have hsame:=zci (rto ((6:Nat):Rat)) (rto ((6:Nat):Rat)) h4;refine Sp.of_mr c.jm (by simp) ?_;rw[yhp];have hmain:MR P 47 awC2.er ⟨[(3,.ptr 3 0 0 0)],[(3,[some ⟨8,[.p (enc awT)]⟩]),(DEAD,[none])]⟩ none fun ex s _=>retP [(0,none)] (.pure (.bool true)) ex s:=by refine MR.of_vm ?_;unfold awC2 awC1;simp[go_sem];refine zab hw ?_;simp[go_sem,awN];refine zab hof ?_;simp[go_sem];refine zab hsame ?_;simp[go_sem];refine zab hv ?_;simp[go_sem];refine zab hl ?_;simp[go_sem]
 generalize (fun(ex:Exit) (s:St) (_:Option FA)=>retP [(0,none)] (RV.pure (PV.bool true)) ex s)=R at *
 unfold awC5;refine MR.gseq ?_;simp[go_sem];unfold awC4;refine MR.gseq ?_;simp[go_sem];refine MR.gseq ?_;simp[go_sem];refine zaa h1 (by simp[go_sem,ar1]) ?_;unfold awC3;simp[go_sem];refine MR.gseq ?_;generalize awC2=W at *
 simp[go_sem];refine MR.weak (Weak.freezeObj (s:=3) (g:=0) (n:=6) (ps:=[enc awT]) rfl ?_ ?_) ?_
 ·simp[go_sem,awT,ar1]
 ·simp[go_sem]
 ·refine MR.weak (Weak.to [3] [((3,0),3)] ?_) hmain;simp[go_sem,killAll,mkSt,St.setObj,deps]
end Go.Ab
