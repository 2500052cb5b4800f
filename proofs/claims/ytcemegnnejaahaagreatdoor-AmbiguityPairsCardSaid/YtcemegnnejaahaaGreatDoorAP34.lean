/- Lemmas for the law AmbiguityOfDeterministic, part 34. No conditions. -/
import Derived.Test.YtcemegnnejaahaaGreatDoorAP33
set_option maxRecDepth 100000
set_option maxHeartbeats 4000000
set_option linter.all false
namespace Go.Ab
open Enc (enc)
attribute [local simp] zaj Opd.slots
theorem zx4{N a b:Nat}(hN:N<=16)(ha:a<N)(hb:b<N)(k:Nat):FnSp (.fn F.fe [.ref (.int .i64 (a:Nat)),.ref (.int .i64 (N:Nat)),.ref (.int .i64 (b:Nat))]) [.int .i64 (k:Nat)] (.bool (decide (k=(a*N+b)*N+b))):=by
 obtain⟨e1,e2,e3,e4⟩:=trpw hN ha hb hb;show Sp P F.fe [.int .i64 (k:Nat),.ref (.int .i64 (a:Nat)),.ref (.int .i64 (N:Nat)),.ref (.int .i64 (b:Nat))] _;generalize (a*N+b)*N+b=n at *
 refine Sp.of_vmW c.fe (by simp) ((Weak.openRef (t:=1) rfl rfl).trans ((Weak.openRef (t:=2) rfl rfl).trans (Weak.openRef (t:=3) rfl rfl))) ?_;simp[-Int.natCast_mul,-Int.natCast_add,g.fe,e1,e2,e3,e4];omega
theorem nxg3{A:GAuto}{N:Nat}(hA:CtrOk A N)(hN:N<=16){U:List Bool}(hU:U.length=N){a b:Nat}(ha:a<N)(hb:b<N){sy:Nat}(hsy:sy<=64) :
  NxG (N*N*N) sy (.fn F.fe [.ref (.int .i64 (a:Nat)),.ref (.int .i64 (N:Nat)),.ref (.int .i64 (b:Nat))]) (fun k=>decide (k=(a*N+b)*N+b)) (nx3 (tgT A U) N) F.iq [.ref (enc (pth A U)),.ref (.int .i64 N)] where
 sz:=by have:=zuu hN;omega
 sy6:=hsy
 gg:=fun n _=>zx4 hN ha hb n
 gs:=rfl
 nx:=fun v k l h hk _ _=>z3d hA hN hU (fun n _=>zx4 hN ha hb n) hk l h
 lt:=fun k l=>z23 (zh2 hA hU) k l
theorem z6g{A:GAuto}{N:Nat}(hA:CtrOk A N)(hN:N<=16){U:List Bool}(hU:U.length=N){a b:Nat}(ha:a<N)(hb:b<N){sy:Nat}(hsy:sy<=64)(hsyA:A.sy=(sy:Nat)) :
  Sp P F.ko [enc (pth A U),.int .i64 (a:Nat),.int .i64 (b:Nat)] (.pure (resS (th3 (tgT A U) N a b sy))):=by
 have hst:A.st=(N:Int):=hA.inN.st;have ev:(zat A).a=A:=rfl;obtain⟨e1,e2,e3,e4⟩:=trpw hN ha ha hb;have hsl:=zl6 (nxg3 hA hN hU ha hb hsy) (beg:=[(a*N+a)*N+b]) (fun n hn=>by rw[ymj.1 hn];exact zjl ha ha hb) (by simp);have hn3:=zuu hN;have hn2:N*N<=16*16:=ymf hN hN;have w1:IntKind.i64.wrap ((N:Int)*N)=((N*N:Nat):Int):=by rw[<- Int.natCast_mul];exact wnat _ (by omega)
 have w2:IntKind.i64.wrap (((N*N:Nat):Int)*N)=((N*N*N:Nat):Int):=by rw[<- Int.natCast_mul];exact wnat _ (by omega)
 unfold th3;rw[show natI [(a*N+a)*N+b]=[(((a*N+a)*N+b:Nat):Int)] from rfl]at hsl;generalize sx (fun k=>decide (k=(a*N+b)*N+b)) (nx3 (tgT A U) N) sy (N*N*N) [(a*N+a)*N+b]=r0 at *
 generalize (a*N+a)*N+b=n at *
 refine Sp.vz c.ko fun _=>?_;generalize hR:retP [(6,none),(7,none)] (.pure (resS r0))=R;simp[-Int.natCast_mul,-Int.natCast_add,g.ko,pth,ev,hst,hsyA,e1,e2,e3,e4,w1,w2];refine zaa hsl ?_ ?_
 ·simp[-Int.natCast_mul,-Int.natCast_add,zrv,St.obj,St.site,look,pth,ev,hsyA,hst]
 ·rw[<- hR];cases r0 with
  | none=>simp[resS,zbh,ens]
  | some w=>simp[resS,zbh]
def s1S(A:GAuto)(U:List Bool)(N a b:Nat):St:=mkSt [(1,.ptr 1 0 0 0),(6,.p (.int .i64 (a:Nat))),(13,.p (.int .i64 N)),(14,.p (.int .i64 (a:Nat))),(20,.p (.int .i64 N)),(21,.p (.int .i64 (b:Nat)))] [(1,⟨9,[.p (enc (pth A U))]⟩)]
def s2S(A:GAuto)(U:List Bool)(N a:Nat):St:=mkSt [(1,.ptr 1 0 0 0),(13,.p (.int .i64 N)),(14,.p (.int .i64 (a:Nat)))] [(1,⟨9,[.p (enc (pth A U))]⟩)]
def s1R(A:GAuto)(U:List Bool)(a b:Nat)(w:List Int):St:=mkSt [(2,.p (.int .i64 (a:Nat))),(3,.p (.int .i64 (b:Nat))),(4,.p (.sl (ens w))),(5,.p (.bool true))] [(1,⟨9,[.p (enc (pth A U))]⟩)]
theorem yb2{A:GAuto}{N:Nat}(hA:CtrOk A N)(hN:N<=16){U:List Bool}(hU:U.length=N){a:Nat}(ha:a<N){sy:Nat}(hsy:sy<=64)(hsyA:A.sy=(sy:Nat))
  {Q:Exit->St->Prop} {ks:List Kt} {st:St} (hw:Weak st (s1S A U N a 0))
  (hq:∀ b w,stI (tgT A U) N (usf U) sy a (List.range' 0 N)=some (b,w)->Q .ret (s1R A U a b w))
  (hx:stI (tgT A U) N (usf U) sy a (List.range' 0 N)=none->zb8 P 56 Q (zay 2 ks) 2 (s1S A U N a N)):vL P 56 Q g.pt ks st:=by
 generalize hr0:stI (tgT A U) N (usf U) sy a (List.range' 0 N)=r0 at *
 refine zag (S:=fun b:Nat=>s1S A U N a b) (I:=fun b=>b<=N/\stI (tgT A U) N (usf U) sy a (List.range' b (N - b))=r0) (m:=fun b=>N - b) 0 hw ⟨yn0 _,hr0⟩ ?_;rintro b ⟨hbN,hc⟩ R hn hr hx';have e1:=i64s b;by_cases hlt:b<N
 ·have hrg:List.range' b (N - b)=b::List.range' (b+1) (N - (b+1)):=by rw[show N - b=(N - (b+1))+1 by omega,ypi]
  rw[hrg]at hc;simp only[stI]at hc;have hend:stI (tgT A U) N (usf U) sy a (List.range' (b+1) (N - (b+1)))=r0->∀ st',Weak st' (s1S A U N a (b+1))->R .normal st':=fun h st' hh=>hn (b+1) st' hh ⟨by omega,h⟩ (by omega);have haU:a<U.length:=by omega
  have hbU:b<U.length:=by omega
  have ga:usf U a=U[a]:=by unfold usf;rw[ym8,yma haU];rfl
  have gb:usf U b=U[b]:=by unfold usf;rw[ym8,yma hbU];rfl
  rw[ga,gb]at hc;have hth:=z6g hA hN hU ha hlt hsy hsyA;generalize th3 (tgT A U) N a b sy=t0 at *
  simp[g.pt,s1S,mkSt,hlt,pth];by_cases hab:a=b
  ·rw[ym0 (.inl hab)]at hc;subst hab;simp[e1];exact hend hc _ (Weak.to [1,6,13,14,20,21] [((1,0),1)] (by simp[s1S,mkSt,pth]))
  have habI:¬ (a:Int)=b:=by omega
  simp[habI];refine zae haU ?_;cases hua:U[a]with
  | false =>
   rw[hua,ym0 (.inr (.inl rfl))]at hc;simp[e1];exact hend hc _ (Weak.to [1,6,13,14,20,21] [((1,0),1)] (by simp[s1S,mkSt,pth]))
  | true =>
  simp;refine zae hbU ?_;cases hub:U[b]with
  | false =>
   rw[hub,ym0 (.inr (.inr rfl))]at hc;simp[e1];exact hend hc _ (Weak.to [1,6,13,14,20,21] [((1,0),1)] (by simp[s1S,mkSt,pth]))
  | true =>
  rw[hua,hub,yl9 (by simp[hab])]at hc;simp;refine zaa hth (by simp[pth]) ?_;cases t0 with
  | none =>
   simp only at hc;simp[resS,killAll,e1];exact hend hc _ (Weak.to [1,6,13,14,20,21] [((1,0),1)] (by simp[s1S,mkSt,pth]))
  | some w =>
   simp only at hc;subst hc;simp[resS,killAll];refine hr _ ?_;simpa[s1R,mkSt,pth]using hq b w rfl
 ·have:b=N:=by omega
  subst this;rw[Nat.sub_self]at hc;simp only[List.range'_zero,stI]at hc;subst hc;simp[g.pt,s1S,mkSt];refine hx' _ _ ?_;simpa[s1S,mkSt]using hx rfl
def zuf:Option (Nat × Nat × List Int)->PV
 | some (a,b,w)=>.tup [.int .i64 (a:Nat),.int .i64 (b:Nat),.sl (ens w),.bool true]
 | none=>.tup [.int .i64 0,.int .i64 0,.sl [],.bool false]
theorem z1d{A:GAuto}{N:Nat}(hA:CtrOk A N)(hN:N<=16){U:List Bool}(hU:U.length=N){sy:Nat}(hsy:sy<=64)(hsyA:A.sy=(sy:Nat)) :
  Sp P F.go [enc (pth A U)] (.pure (zuf (stO (tgT A U) N (usf U) sy (List.range' 0 N)))):=by
 have hst:(pth A U).v.a.st=(N:Int):=hA.inN.st;generalize hr0:stO (tgT A U) N (usf U) sy (List.range' 0 N)=r0;refine Sp.vz c.go fun _=>?_;simp[g.go,hst];refine zag (S:=fun k:Nat=>s2S A U N k) (I:=fun k=>k<=N/\stO (tgT A U) N (usf U) sy (List.range' k (N - k))=r0) (m:=fun k=>N - k) 0 (Weak.to [1,13,14] [((1,0),1)] (by simp[s2S,mkSt,hst])) ⟨yn0 _,hr0⟩ ?_;rintro k ⟨hk,hc⟩ R hn hr hx;have e1:=i64s k;by_cases hlt:k<N
 ·have hrg:List.range' k (N - k)=k::List.range' (k+1) (N - (k+1)):=by rw[show N - k=(N - (k+1))+1 by omega,ypi]
  rw[hrg]at hc;simp only[stO]at hc;rw[List.range_eq_range']at hc;simp[g.qv,s2S,mkSt,hlt,hst];refine yb2 hA hN hU hlt hsy hsyA (Weak.to [1,6,13,14,20,21] [((1,0),1)] (by simp[s1S,mkSt,hst])) (fun b w h=>?_) (fun h=>?_)
  ·rw[h]at hc;simp only at hc;subst hc;refine hr _ ?_;simp[s1R,mkSt,zuf]
  ·rw[h]at hc;simp only at hc;simp[s1S,mkSt,e1];exact hn (k+1) _ (Weak.to [1,13,14] [((1,0),1)] (by simp[s2S,mkSt])) ⟨by omega,hc⟩ (by omega)
 ·have:k=N:=by omega
  subst this;rw[ypl]at hc;simp only[List.range'_zero,stO]at hc;subst hc;simp[g.qv,s2S,mkSt];refine hx _ _ ?_;simp[zuf,ens]
structure Lk (a:GAuto) (n:Nat):Prop where
 n90:n<=90
 n3:3<=n
 sm:a.sm n
 al:a.arcs.length<=19
 vb:a.vb=true
 l0:∀ x∈a.nf.arcs,x.l≠0
 s16:a.st<=16
theorem Lk.ctr{a:GAuto}{n:Nat}(h:Lk a n):CtrOk a.nf a.st.toNat:=by
 have ok:=GAuto.vb_iff.1 h.vb;have k:=zw9 ok;have h1:a.nf.st=a.st:=rfl;have e2:(a.st.toNat:Int)=a.st:=by have:=ok.st1;omega
 refine⟨yas ok,?_,fun x hx=>?_,?_,fun w hw=>(h.sm.fin w hw).mono (by have:=h.n90;omega),k.al,by have:=ok.st2;omega⟩
 ·have:=(zgr ok.ring (l:=a.arcs) fun x hx=>(ok.arcs x hx).2.2.2.2.2.2).1;rw[<- zl1]at this;exact List.Pairwise.imp (fun h=>ykl h) this
 ·have:=k.arcs x hx;rw[e2,<- h1];exact⟨this.2.2.1,this.2.2.2.1⟩
 ·have:=k.fl;rw[h1]at this;omega
theorem Lk.il{a:GAuto}{n:Nat}(h:Lk a n):a.nf.ini.length=a.st.toNat:=by have ok:=GAuto.vb_iff.1 h.vb;have k:=(zw9 ok).il;have h1:a.nf.st=a.st:=rfl;rw[h1]at k;omega
theorem Lk.ism{a:GAuto}{n:Nat}(h:Lk a n):∀ w∈a.nf.ini,w.sm 1048576:=fun w hw=>(h.sm.ini w hw).mono (by have:=h.n90;omega)
theorem Lk.fsm{a:GAuto}{n:Nat}(h:Lk a n):∀ w∈a.nf.fin,w.sm 1048576:=fun w hw=>(h.sm.fin w hw).mono (by have:=h.n90;omega)
theorem zuz{a:GAuto}{n:Nat}(h:Lk a n):Sp P F.an [enc a,.bool true] (.pure (.tup [enc (pth a.nf (usV a.nf a.st.toNat)),.int .i64 0])):=by
 have hA:=h.ctr;have hil:a.nf.ini.length=a.st.toNat:=h.il;have hism:∀ w∈a.nf.ini,w.sm 1048576:=h.ism;have hv:=z0h a n h.n90 h.n3 h.sm h.al;have he:=zro (zat a.nf) (by have:=hA.al;show a.nf.arcs.length<=_;omega);have hu:=zrs hA hil hism;have h16:=h.s16;have hN:=hA.N1;have hel:(usV a.nf a.st.toNat).length=a.st.toNat:=zbf _ _ _ _;have h0:((zat a.nf).a.arcs.any fun x=>decide (x.l=0))=false:=by rw[List.any_eq_false];intro x hx;simpa using h.l0 x hx
 rw[h0]at he;rw[h.vb]at hv;simp only[ym2]at hv;generalize usV a.nf a.st.toNat=U at *
 generalize a.nf=A at *
 refine Sp.vz c.an fun _=>?_;simp[g.an];refine zab hv ?_;simp;refine zab he ?_;simp;refine⟨h16,fun _=>?_⟩;refine zdh hu (by simp) ⟨by simp[ens],by omega,by simp[-zas,ens,LIM,hel];omega⟩ _ rfl ?_;simp[hel,pth];rw[<- hel,yml]
theorem Lk.sy{a:GAuto}{n:Nat}(h:Lk a n):a.sy.toNat<=64/\a.nf.sy=(a.sy.toNat:Nat):=by have ok:=GAuto.vb_iff.1 h.vb;have k:=ok.sy1;have k2:=ok.sy2;have h1:a.nf.sy=a.sy:=rfl;rw[h1];omega
noncomputable def grwA(a:GAuto):Int:=grw (tgT a.nf (usV a.nf a.st.toNat)) a.st.toNat (usf (usV a.nf a.st.toNat)) (nzI a.nf) (nzF a.nf) a.sy.toNat 0 1 2 3
theorem zg6{a:GAuto}{n:Nat}(h:Lk a n):Sp P F.dz [enc a] (.pure (.tup [.int .i64 (grwA a),.int .i64 0])):=by
 have hA:=h.ctr;have hl:=zuz h;have h16:a.st.toNat<=16:=by have:=h.s16;omega
 have hel:(usV a.nf a.st.toNat).length=a.st.toNat:=zbf _ _ _ _;obtain⟨hsy,hsyA⟩:=h.sy;have hp:=z2o hA h.il h.ism hel hsy hsyA;have hlo:=z3u hA hel hsy hsyA;have hst:=z1d hA h16 hel hsy hsyA;have hg:grwA a=grw (tgT a.nf (usV a.nf a.st.toNat)) a.st.toNat (usf (usV a.nf a.st.toNat)) (nzI a.nf) (nzF a.nf) a.sy.toNat 0 1 2 3:=rfl;unfold grw at hg;rw[List.range_eq_range']at hg;generalize tw2 (tgT a.nf (usV a.nf a.st.toNat)) a.st.toNat (fun s=>usf (usV a.nf a.st.toNat) s&&nzI a.nf s) (nzF a.nf) a.sy.toNat=r0 at *
 generalize lpG (tgT a.nf (usV a.nf a.st.toNat)) a.st.toNat (usf (usV a.nf a.st.toNat)) a.sy.toNat (List.range' 0 a.st.toNat)=r1 at *
 generalize stO (tgT a.nf (usV a.nf a.st.toNat)) a.st.toNat (usf (usV a.nf a.st.toNat)) a.sy.toNat (List.range' 0 a.st.toNat)=r2 at *
 generalize pth a.nf (usV a.nf a.st.toNat)=p at *
 generalize grwA a=G at *
 subst hg;refine Sp.vz c.dz fun _=>?_;simp[g.dz];refine zab hl ?_;simp;refine zab hp ?_;cases r0 with
 | none=>simp[resS]
 | some w =>
 simp[resS];refine zab hlo ?_;cases r1 with
 | some w=>simp[resL]
 | none =>
 simp[resL];refine zab hst ?_;cases r2 with
 | some w=>simp[zuf]
 | none=>simp[zuf]
theorem zxo{a:GAuto}{n:Nat}(h:Lk a n):Sp P F.gk [enc a] (.pure (match lpG (tgT a.nf (usV a.nf a.st.toNat)) a.st.toNat (usf (usV a.nf a.st.toNat)) a.sy.toNat (List.range' 0 a.st.toNat)with
  | some (q,w)=>.tup [.int .i64 (q:Nat),.sl (ens w),.bool true,.int .i64 0]
  | none=>.tup [.int .i64 0,.sl [],.bool false,.int .i64 0])):=by
 have hA:=h.ctr;have hl:=zuz h;have hel:(usV a.nf a.st.toNat).length=a.st.toNat:=zbf _ _ _ _;obtain⟨hsy,hsyA⟩:=h.sy;have hlo:=z3u hA hel hsy hsyA;generalize lpG (tgT a.nf (usV a.nf a.st.toNat)) a.st.toNat (usf (usV a.nf a.st.toNat)) a.sy.toNat (List.range' 0 a.st.toNat)=r1 at *
 generalize pth a.nf (usV a.nf a.st.toNat)=p at *
 refine Sp.vz c.gk fun _=>?_;simp[g.gk];refine zab hl ?_;simp;refine zab hlo ?_;obtain _|⟨q,w⟩:=r1
 ·simp[resL]
 ·simp[resL]
def tkR{α : Type}(d : α)(l:List α)(k:Nat):List α := l.take k++List.replicate (l.length - k) d
theorem z0w{α : Type}(d : α)(l:List α){k:Nat}(h:k<=l.length):(tkR d l k).length=l.length:=by simp[tkR];omega
theorem z0v{α : Type}(d : α)(l:List α){k:Nat}(h:k<l.length):(tkR d l k).set k l[k]=tkR d l (k+1):=by
 unfold tkR;have hl:(l.take k).length=k:=by rw[yni];omega
 rw[yq7 _ _ (by omega),hl,ypl];obtain⟨n,hn⟩:∃ n,l.length - k=n+1:=⟨l.length - k - 1,by omega⟩;have hn2:l.length - (k+1)=n:=by omega
 rw[hn,hn2,yox,yqd,ymg h,yoj];rfl
theorem ybj{α : Type}(d : α)(l:List α):tkR d l l.length=l:=by simp[tkR]
theorem z6d{α : Type}(d : α)(l:List α):tkR d l 0=List.replicate l.length d:=by simp[tkR]
def andB(A B:List Bool):List Bool:=List.zipWith (fun a b=>a&&b) A B
def trn(ps:List (Int × Int)):List (Int × Int):=ps.map fun p=>(p.2,p.1)
def sel{α : Type}:List Bool->List α -> List α
 | b::m,x::l=>if b=true then x::sel m l else sel m l
 | _,_=>[]
theorem zlc{α : Type}:∀ {m:List Bool} {l:List α} {k:Nat} (h:k<m.length) (h2:k<l.length),sel (m.take (k+1)) (l.take (k+1))=sel (m.take k) (l.take k)++(if m[k]=true then[l[k]]else[])
 | b::m,x::l,0,_,_=>by cases b<;>simp[sel]
 | b::m,x::l,k+1,h,h2=>by have ih:=zlc (m:=m) (l:=l) (k:=k) (by simpa using h) (by simpa using h2);simp only[List.take_succ_cons,sel,List.getElem_cons_succ]at ih ⊢;cases b<;>simp_all
theorem zuc{α : Type}:∀ {m:List Bool} {l:List α},m.length=l.length->(sel m l).length=m.count true
 | [],[],_=>rfl
 | b::m,x::l,h=>by have ih:=zuc (m:=m) (l:=l) (by simpa using h);cases b<;>simp[sel,ih]
theorem zpz{α : Type}:∀ {m:List Bool} {l:List α} {x : α},x∈sel m l->x∈l
 | b::m,y::l,x,h=>by
  cases b with
  | true =>
   rcases ym3.1 (show x∈y::sel m l from h)with rfl|h
   ·simp
   ·simp[zpz h]
  | false=>simp[zpz (show x∈sel m l from h)]
 | [],_,_,h=>by cases h
 | _::_,[],_,h=>by cases h
def cnt(m:List Bool)(k:Nat):Nat:=(m.take k).count true
theorem zyl{m:List Bool}{k:Nat}(h:k<m.length):cnt m (k+1)=cnt m k+(m[k]).toNat:=by unfold cnt;rw[ymg h,List.count_append];cases m[k]<;>simp
theorem yhy(m:List Bool)(k:Nat):cnt m k<=k:=ym6 yqb (by rw[yni];omega)
def toF(m:List Bool):List Int:=(List.range m.length).map fun j=>if m.getD j false=true then((cnt m j:Nat):Int)else 0
theorem zlz(m:List Bool):(toF m).length=m.length:=by simp[toF]
theorem z0t{m:List Bool}{k:Nat}(h:k<m.length)(h2:k<(toF m).length):(toF m)[k]=if m[k]=true then((cnt m k:Nat):Int)else 0:=by simp only[toF,List.getElem_map,List.getElem_range];rw[ym8,yma h];rfl
theorem z6e{α : Type}(d : α)(l:List α){k:Nat}(h:k<l.length)(hd:l[k]=d):tkR d l (k+1)=tkR d l k:=by
 rw[<- z0v d l h,hd];apply ypt;intro i;rw[yqp];split
 ·rename_i h1;subst h1;rw[z0w d l (by omega),ym0 h];unfold tkR;rw[yoa (by rw[yni];omega)];have hl:k - (l.take k).length=0:=by rw[yni];omega
  rw[hl,yrf,ym0 (by omega)]
 ·rfl
def prG(K:List GArc):List (Int × Int):=K.map fun x=>(x.f,x.t)
def kqP(m:List Bool)(x:GArc):Bool:=m.getD x.f.toNat false&&m.getD x.t.toNat false
def kqR(m:List Bool)(x:GArc):GArc:=⟨(toF m).getD x.f.toNat 0,x.l,(toF m).getD x.t.toNat 0,x.w⟩
def kqA(m:List Bool)(l:List GArc):List GArc:=(l.filter (kqP m)).map (kqR m)
theorem z74(m:List Bool){l:List GArc}{k:Nat}(h:k<l.length):kqA m (l.take (k+1))=kqA m (l.take k)++(if kqP m l[k]=true then[kqR m l[k]]else[]):=by
 unfold kqA;rw[ymg h,yot,ynm]
 congr 1
 cases hc:kqP m l[k]<;>simp[hc]
theorem z33(m:List Bool)(l:List GArc):(kqA m l).length<=l.length:=by unfold kqA;rw[yol];exact ynk _ _
noncomputable def zbm(r:GRing)(l:List GW):List Bool:=l.map fun w => !decide (w=r.zero)
theorem zxs(r:GRing)(l:List GW)(hl:l.length<=1000000)(hs:∀ w∈l,w.sm 1048576):Sp P F.kx [enc r,.sl (ens l)] (.pure (.sl (ens (zbm r l)))):=by
 refine Sp.vz c.kx fun _=>?_;simp[g.kx]
 refine zag (S:=fun k:Nat=>mkSt [(1,.p (.sl (ens l))),(2,.ptr 2 0 0 0),(5,.own 5 0 0 (zbm r (l.take k)).length),(6,.p (.int .i64 k))] [(2,⟨2,[.p (enc r)]⟩),(5,⟨1,avs (zbm r (l.take k))⟩)]) (I:=fun k=>k<=l.length) (m:=fun k=>l.length - k) 0
  (Weak.nl 5 77 1 rfl (Weak.to [1,2,5,6] [((2,0),2),((77,0),5)] (by simp[mkSt,zbm]))) (by omega) ?_
 rintro k hk R hn' hr hx;have e1:=i64s k;by_cases hlt:k<l.length
 ·have hz:=zo7 r l[k] (hs _ (ym7 hlt));have hll:(zbm r (l.take k)).length=k:=by simp[zbm];omega
  have hs1:zbm r (l.take (k+1))=zbm r (l.take k)++[!decide (l[k]=r.zero)]:=by unfold zbm;rw[ymg hlt,ynm];rfl
  have hend:∀ st',Weak st' (mkSt [(1,.p (.sl (ens l))),(2,.ptr 2 0 0 0),(5,.own 5 0 0 (zbm r (l.take (k+1))).length),(6,.p (.int .i64 (k+1:Nat)))] [(2,⟨2,[.p (enc r)]⟩),(5,⟨1,avs (zbm r (l.take (k+1)))⟩)])->R .normal st':=fun st' h=>hn' (k+1) st' h (by omega) (by omega);rw[hs1]at hend;generalize zbm r (l.take k)=A at *
  simp[g.rh,mkSt,hlt];refine zae hlt ?_;generalize l[k]'hlt=w at *
  refine zab hz ?_;generalize decide (w=r.zero)=bb at *
  simp[e1,LIM];refine⟨by omega,hend _ (Weak.to [1,2,5,6] [((2,0),2),((22,0),5)] ?_)⟩;simp[mkSt]
 ·have:k=l.length:=by omega
  subst this;simp[g.rh,mkSt];refine hx _ _ ?_;simp
theorem z9t(A B:List Bool)(ps:List (Int × Int))(hA:A.length<=100000)(hB:B.length=A.length)(hp:ps.length<=100000)(h:∀ p∈ps,(0<=p.1/\p.1<A.length)/\0<=p.2/\p.2<A.length) :
  Sp P F.kw [.sl (ens A),.sl (ens B),.sl (ens ps)] (.pure (.sl (ens (andB (spF ps A.length A) (spF (trn ps) B.length B))))):=by
 have h1:=zod A ps hA hp h;have h2:=zod B (trn ps) (by omega) (by simp[trn];omega) fun p hq=>by obtain⟨q,hq2,rfl⟩:=ym5.1 hq;have:=h q hq2;rw[hB];exact⟨this.2,this.1⟩
 have l1:(spF ps A.length A).length=A.length:=zdd _ _ _;have l2:(spF (trn ps) B.length B).length=A.length:=by rw[zdd,hB]
 generalize spF ps A.length A=X at *
 generalize spF (trn ps) B.length B=Y at *
 refine Sp.vz c.kw fun _=>?_;simp[g.kw]
 refine zag (S:=fun k:Nat=>mkSt [(0,.p (.sl (ens A))),(1,.p (.sl (ens B))),(2,.p (.sl (ens ps))),(7,.own 7 0 0 (trn (ps.take k)).length),(8,.p (.int .i64 k))] [(7,⟨2,avs (trn (ps.take k))⟩)]) (I:=fun k=>k<=ps.length) (m:=fun k=>ps.length - k) 0
  (Weak.nl 7 77 2 rfl (Weak.to [0,1,2,7,8] [((77,0),7)] (by simp[mkSt,trn]))) (by omega) ?_
 rintro k hk R hn' hr hx;have e1:=i64s k;by_cases hlt:k<ps.length
 ·have hll:(trn (ps.take k)).length=k:=by simp[trn];omega
  have hs1:trn (ps.take (k+1))=trn (ps.take k)++[(ps[k].2,ps[k].1)]:=by unfold trn;rw[ymg hlt,ynm];rfl
  have hend:∀ st',Weak st' (mkSt [(0,.p (.sl (ens A))),(1,.p (.sl (ens B))),(2,.p (.sl (ens ps))),(7,.own 7 0 0 (trn (ps.take (k+1))).length),(8,.p (.int .i64 (k+1:Nat)))] [(7,⟨2,avs (trn (ps.take (k+1)))⟩)])->R .normal st':=fun st' h=>hn' (k+1) st' h (by omega) (by omega);rw[hs1]at hend;generalize trn (ps.take k)=T at *
  simp[g.rf,mkSt,hlt,e1,LIM];refine zae hlt (zae hlt ?_);generalize ps[k]'hlt=q at *
  refine⟨by omega,hend _ (Weak.to [0,1,2,7,8] [((32,0),7)] ?_)⟩;simp[mkSt]
 ·have:k=ps.length:=by omega
  subst this;rw[ymh (ym9 _)];simp[g.rf,mkSt];refine hx _ _ ?_;simp;refine zab h1 ?_;simp;refine zab h2 ?_;simp[killAll]
  refine zag (S:=fun k:Nat=>mkSt [(9,.p (.sl (ens X))),(10,.p (.sl (ens Y))),(11,.own 11 0 0 (andB (X.take k) (Y.take k)).length),(12,.p (.int .i64 k))] [(11,⟨1,avs (andB (X.take k) (Y.take k))⟩)]) (I:=fun k=>k<=A.length) (m:=fun k=>A.length - k) 0
   (Weak.nl 11 77 1 rfl (Weak.to [9,10,11,12] [((77,0),11)] (by simp[mkSt,andB]))) (by omega) ?_
  rintro k hk R hn' hr hx;have e1:=i64s k;by_cases hlt:k<A.length
  ·have hkX:k<X.length:=by omega
   have hkY:k<Y.length:=by omega
   have hll:(andB (X.take k) (Y.take k)).length=k:=by simp[andB];omega
   have hs1:andB (X.take (k+1)) (Y.take (k+1))=andB (X.take k) (Y.take k)++[X[k]&&Y[k]]:=by unfold andB;rw[ymg hkX,ymg hkY,List.zipWith_append (by simp;omega)];rfl
   have hend:∀ st',Weak st' (mkSt [(9,.p (.sl (ens X))),(10,.p (.sl (ens Y))),(11,.own 11 0 0 (andB (X.take (k+1)) (Y.take (k+1))).length),(12,.p (.int .i64 (k+1:Nat)))] [(11,⟨1,avs (andB (X.take (k+1)) (Y.take (k+1)))⟩)])->R .normal st':=fun st' h=>hn' (k+1) st' h (by omega) (by omega);rw[hs1]at hend;generalize andB (X.take k) (Y.take k)=T at *
   have gX:X[k]?=some X[k]:=yma hkX;have gY:Y[k]?=some Y[k]:=yma hkY;generalize X[k]'hkX=a at *
   generalize Y[k]'hkY=b at *
   simp[g.rg,mkSt,hkX];refine zd1 gX ?_;cases a with
   | true =>
    simp;refine zd1 gY ?_;simp[e1];refine⟨by omega,hend _ (Weak.to [9,10,11,12] [((57,0),11)] ?_)⟩;simp[mkSt]
   | false =>
    simp[e1,LIM];refine⟨by omega,hend _ (Weak.to [9,10,11,12] [((57,0),11)] ?_)⟩;simp[mkSt]
  ·have:k=A.length:=by omega
   subst this;rw[ymh (by omega),ymh (by omega)];simp[g.rg,mkSt,l1];refine hx _ _ ?_;simp
def zAu:AV:=.agg [.p (.int .i64 0),.nil,.p (.int .i64 0),.p (.int .i64 0),.nil,.nil,.nil]
def kpG(F:GAuto)(m:List Bool)(N:Nat):GAuto:=⟨F.ring,F.sy,(cnt m N:Nat),sel m F.ini,sel m F.fin,kqA m F.arcs⟩
def qk1S(F:GAuto)(m:List Bool)(N:Nat)(A B:List GW)(D:List Int)(cm k:Nat):St :=
 mkSt [(1,.p (.sl (ens m))),(2,.ptr 2 0 0 0),(4,.ptr 4 0 0 0),(5,.ptr 5 0 0 0),(6,.own 17 0 0 N),(7,.p (.int .i64 k))]
  [(2,⟨7,[.p (enc F)]⟩),(4,⟨7,[zAu]⟩),(5,⟨7,[.agg [.p (.int .i64 F.ring.kind),.p (.sl (ens F.ring.parts)),.p (.int .i64 F.sy),.p (.int .i64 cm),.own 21 0 0 A.length,.own 22 0 0 B.length,.nil]]⟩),
  (17,⟨1,avs D⟩),(21,⟨8,avs A⟩),(22,⟨8,avs B⟩)]
def qk2S(F:GAuto)(m:List Bool)(N:Nat)(A B:List GW)(D:List Int)(cm:Nat)(C:List GArc)(k:Nat):St :=
 mkSt [(1,.p (.sl (ens m))),(2,.ptr 2 0 0 0),(4,.ptr 4 0 0 0),(5,.ptr 5 0 0 0),(6,.own 17 0 0 N),(8,.p (.int .i64 k))]
  [(2,⟨7,[.p (enc F)]⟩),(4,⟨7,[zAu]⟩),(5,⟨7,[.agg [.p (.int .i64 F.ring.kind),.p (.sl (ens F.ring.parts)),.p (.int .i64 F.sy),.p (.int .i64 cm),.own 21 0 0 A.length,.own 22 0 0 B.length,.own 23 0 0 C.length]]⟩),
  (17,⟨1,avs D⟩),(21,⟨8,avs A⟩),(22,⟨8,avs B⟩),(23,⟨11,avs C⟩)]
theorem z7d{F:GAuto}{N:Nat}(hN:N<=100000)(hst:F.st=N)(li:F.ini.length=N)(lf:F.fin.length=N){m:List Bool}(hm:m.length=N){Q:Exit->St->Prop}{ks:List Kt}{st:St}(hw:Weak st (qk1S F m N [] [] (tkR 0 (toF m) 0) 0 0))
  (hx:zb8 P 102 Q (zay 0 ks) 0 (qk1S F m N (sel m F.ini) (sel m F.fin) (toF m) (cnt m N) N)):vL P 102 Q g.o5 ks st:=by
 have lT:(toF m).length=N:=by rw[zlz,hm]
 refine zag (S:=fun k:Nat=>qk1S F m N (sel (m.take k) (F.ini.take k)) (sel (m.take k) (F.fin.take k)) (tkR 0 (toF m) k) (cnt m k) k) (I:=fun k=>k<=N) (m:=fun k=>N - k) 0 (by simpa[sel,cnt]using hw) (by omega) ?_;rintro k hk R hn' hr hx';have e1:=i64s k;by_cases hlt:k<N
 ·have hend:∀ st',Weak st' (qk1S F m N (sel (m.take (k+1)) (F.ini.take (k+1))) (sel (m.take (k+1)) (F.fin.take (k+1))) (tkR 0 (toF m) (k+1)) (cnt m (k+1)) (k+1))->R .normal st':=fun st' h=>hn' (k+1) st' h (by omega) (by omega);have hkm:k<m.length:=by omega
  have hki:k<F.ini.length:=by omega
  have hkf:k<F.fin.length:=by omega
  have hcl:=yhy m k;have e2:IntKind.i64.wrap ((cnt m k:Int)+1)=((cnt m k+1:Nat):Int):=i64w (by omega) (by omega);rw[zlc hkm hki,zlc hkm hkf,zyl hkm]at hend;have hA:(sel (m.take k) (F.ini.take k)).length<=100000:=by rw[zuc (by simp;omega)];exact ym6 yqb (by rw[yni];omega)
  have hB:(sel (m.take k) (F.fin.take k)).length<=100000:=by rw[zuc (by simp;omega)];exact ym6 yqb (by rw[yni];omega)
  have htl:=z0w 0 (toF m) (k:=k) (by omega);have hst':=z0v 0 (toF m) (k:=k) (by omega);have hsk:=z6e 0 (toF m) (k:=k) (by omega);rw[z0t hkm]at hst' hsk;generalize sel (m.take k) (F.ini.take k)=A at *
  generalize sel (m.take k) (F.fin.take k)=B at *
  have hgm:m[k]?=some m[k]:=yma hkm;generalize m[k]'hkm=b at *
  cases b with
  | false =>
   rw[hsk rfl]at hend;simp only[yme,ymb,yos,Bool.toNat_false,ymx]at hend;clear hn' hx' hr hw hx hst' hsk;generalize tkR 0 (toF m) k=D at *
   generalize cnt m k=cm at *
   simp[g.o5,qk1S,mkSt,hst,hlt,zAu];refine zd1 hgm ?_;simp[e1];refine hend _ (Weak.to [1,2,4,5,6,7] [((2,0),2),((4,0),4),((5,0),5),((17,0),17),((21,0),21),((22,0),22)] ?_);simp[qk1S,mkSt,zAu,hst]
  | true =>
   simp only[ym2,Bool.toNat_true]at hend hst';rw[<- hst']at hend;clear hn' hx' hr hw hx hst' hsk;rw[lT]at htl;generalize tkR 0 (toF m) k=D at *
   generalize cnt m k=cm at *
   simp[g.o5,qk1S,mkSt,hst,hlt,zAu];refine zd1 hgm ?_;simp[e1,e2,hlt,htl];refine zae (by omega:k<D.length) (zae hki ⟨by omega,zae hkf ⟨by omega,hend _ (Weak.to [1,2,4,5,6,7] [((2,0),2),((4,0),4),((5,0),5),((17,0),17),((45,0),21),((54,0),22)] ?_)⟩⟩);rw[zz7 D k ((cm:Nat):Int) (v:=.p (.int .i64 cm)) rfl];generalize D.set k ((cm:Nat):Int)=D2;generalize F.ini[k]'hki=w1 at *
   generalize F.fin[k]'hkf=w2 at *
   simp[qk1S,mkSt,zAu,hst]
 ·have:k=N:=by omega
  subst this;have t0:tkR 0 (toF m) k=toF m:=by rw[<- lT];exact ybj 0 (toF m)
  rw[t0,List.take_of_length_le (by omega),List.take_of_length_le (by omega),List.take_of_length_le (by omega)];simp[g.o5,qk1S,mkSt,hst,zAu];refine hx' _ _ ?_;simpa[qk1S,mkSt,zAu,hst]using hx
theorem z7c{F:GAuto}{N:Nat}(hN:N<=100000)(hl:F.arcs.length<=3000000){m:List Bool}(hm:m.length=N)(hf:∀ x∈F.arcs,(0<=x.f/\x.f<(N:Int))/\0<=x.t/\x.t<(N:Int)){A B:List GW}{cm:Nat}{Q:Exit->St->Prop}{ks:List Kt}{st:St}(hw:Weak st (qk2S F m N A B (toF m) cm [] 0))
  (hx:zb8 P 102 Q (zay 2 ks) 2 (qk2S F m N A B (toF m) cm (kqA m F.arcs) F.arcs.length)):vL P 102 Q g.px ks st:=by
 have lT:(toF m).length=N:=by rw[zlz,hm]
 refine zag (S:=fun k:Nat=>qk2S F m N A B (toF m) cm (kqA m (F.arcs.take k)) k) (I:=fun k=>k<=F.arcs.length) (m:=fun k=>F.arcs.length - k) 0 (by simpa[kqA]using hw) (by omega) ?_;rintro k hk R hn' hr hx';have e1:=i64s k;by_cases hlt:k<F.arcs.length
 ·have hend:∀ st',Weak st' (qk2S F m N A B (toF m) cm (kqA m (F.arcs.take (k+1))) (k+1))->R .normal st':=fun st' h=>hn' (k+1) st' h (by omega) (by omega);have hC:(kqA m (F.arcs.take k)).length<=3000000:=ym6 (z33 _ _) (by rw[yni];omega);rw[z74 m hlt]at hend;generalize kqA m (F.arcs.take k)=C at *
  obtain⟨⟨f0,f1⟩,t0,t1⟩:=hf _ (ym7 hlt);clear hn' hx' hr hw hx;simp[g.px,qk2S,mkSt,hlt,zAu];refine zae hlt ?_;generalize F.arcs[k]'hlt=x at *
  obtain⟨f,hf1⟩:∃ f:Nat,x.f=(f:Int):=⟨x.f.toNat,by omega⟩;obtain⟨q,ht1⟩:∃ q:Nat,x.t=(q:Int):=⟨x.t.toNat,by omega⟩;have hfN:f<N:=by omega
  have hqN:q<N:=by omega
  have g1:m[f]?=some m[f]:=yma (by omega);have g2:m[q]?=some m[q]:=yma (by omega);have g3:(toF m)[f]?=some (toF m)[f]:=yma (by omega);have g4:(toF m)[q]?=some (toF m)[q]:=yma (by omega);have hP:kqP m x=(m[f]&&m[q]):=by unfold kqP;rw[hf1,ht1,yno,yno,ym8,ym8,g1,g2];rfl
  have hR:kqR m x=⟨(toF m)[f],x.l,(toF m)[q],x.w⟩:=by unfold kqR;rw[hf1,ht1,yno,yno,ym8,ym8,g3,g4];rfl
  rw[hP,hR]at hend;generalize m[f]=b1 at *
  generalize m[q]=b2 at *
  generalize (toF m)[f]=n1 at *
  generalize (toF m)[q]=n2 at *
  generalize toF m=D at *
  rw[hf1,ht1];simp;refine zd1 g1 ?_;cases b1 with
  | false =>
   simp only[Bool.false_and,yme,ymb,yos]at hend;simp[e1];refine hend _ (Weak.to [1,2,4,5,6,8] [((2,0),2),((4,0),4),((5,0),5),((17,0),17),((21,0),21),((22,0),22),((23,0),23)] ?_);simp[qk2S,mkSt,zAu]
  | true =>
   simp;refine zd1 g2 ?_;cases b2 with
   | false =>
    simp only[Bool.and_false,yme,ymb,yos]at hend;simp[e1];refine hend _ (Weak.to [1,2,4,5,6,8] [((2,0),2),((4,0),4),((5,0),5),((17,0),17),((21,0),21),((22,0),22),((23,0),23)] ?_);simp[qk2S,mkSt,zAu]
   | true =>
    simp only[yqk,ym2]at hend;simp[hfN,hqN,lT];refine zd1 g3 (zd1 g4 ?_);simp[e1];refine⟨by omega,hend _ (Weak.to [1,2,4,5,6,8] [((2,0),2),((4,0),4),((5,0),5),((17,0),17),((21,0),21),((22,0),22),((99,0),23)] ?_)⟩;simp[qk2S,mkSt,zAu]
 ·have:k=F.arcs.length:=by omega
  subst this;rw[List.take_of_length_le (Nat.le_refl _)];simp[g.px,qk2S,mkSt,zAu];refine hx' _ _ ?_;simpa[qk2S,mkSt,zAu]using hx
theorem z78{Z:GAuto}{N:Nat}(hN:N<=100000)(hst:Z.st=N)(li:Z.ini.length=N)(lf:Z.fin.length=N){m:List Bool}(hm:m.length=N)(hl:Z.arcs.length<=3000000)(hf:∀ x∈Z.arcs,(0<=x.f/\x.f<(N:Int))/\0<=x.t/\x.t<(N:Int)) :
  Sp P F.j8 [enc Z,.sl (ens m)] (.pure (enc (kpG Z m N))):=by
 refine Sp.vz c.j8 fun _=>?_;simp[g.j8,hst];have hz:avs (tkR 0 (toF m) 0)=List.replicate N (.p (.int .i64 0)):=by rw[z6d,zlz,hm,zc8];rfl
 have hkm:(toF m).length=N:=by rw[zlz,hm]
 refine⟨by omega,?_⟩;refine z7d (F:=Z) (m:=m) (N:=N) hN hst li lf hm ((Weak.nilCell (s0:=5) (g0:=0) (i:=4) (s:=77) (sz:=8) rfl).trans ((Weak.nilCell (s0:=5) (g0:=0) (i:=5) (s:=78) (sz:=8) rfl).trans (Weak.to [1,2,4,5,6,7] [((2,0),2),((4,0),4),((5,0),5),((17,0),17),((77,0),21),((78,0),22)] ?_))) ?_
 ·simp only[qk1S,hz];simp[mkSt,zAu,hst]
 simp[qk1S,mkSt];refine z7c (F:=Z) (m:=m) (N:=N) hN hl hm hf (A:=sel m Z.ini) (B:=sel m Z.fin) (cm:=cnt m N) ((Weak.nilCell (s0:=5) (g0:=0) (i:=6) (s:=77) (sz:=11) rfl).trans (Weak.to [1,2,4,5,6,8] [((2,0),2),((4,0),4),((5,0),5),((17,0),17),((21,0),21),((22,0),22),((77,0),23)] ?_)) ?_
 ·simp[qk2S,mkSt,zAu,hst]
 simp[qk2S,mkSt,zAu,kpG]
def uq9(F:GAuto)(k:Nat):St:=mkSt [(1,.ptr 1 0 0 0),(3,.own 3 0 0 (prG (F.arcs.take k)).length),(4,.p (.int .i64 k))] [(1,⟨7,[.p (enc F)]⟩),(3,⟨2,avs (prG (F.arcs.take k))⟩)]
theorem z57{F:GAuto}(hl:F.arcs.length<=100000){Q:Exit->St->Prop}{ks:List Kt}{st:St}(hw:Weak st (uq9 F 0))(hx:zb8 P 40 Q (zay 0 ks) 0 (uq9 F F.arcs.length)):vL P 40 Q g.py ks st:=by
 refine zag (S:=fun k:Nat=>uq9 F k) (I:=fun k=>k<=F.arcs.length) (m:=fun k=>F.arcs.length - k) 0 hw (by omega) ?_;rintro k hk R hn' hr hx';have e1:=i64s k;by_cases hlt:k<F.arcs.length
 ·have hll:(prG (F.arcs.take k)).length=k:=by simp[prG];omega
  have hs1:prG (F.arcs.take (k+1))=prG (F.arcs.take k)++[(F.arcs[k].f,F.arcs[k].t)]:=by unfold prG;rw[ymg hlt,ynm];rfl
  have hend:∀ st',Weak st' (uq9 F (k+1))->R .normal st':=fun st' h=>hn' (k+1) st' h (by omega) (by omega);unfold uq9 at hend ⊢;rw[hs1]at hend;generalize prG (F.arcs.take k)=T at *
  simp[g.py,mkSt,hlt];refine zae hlt (zae hlt ?_);generalize F.arcs[k]'hlt=q at *
  simp[e1];refine⟨by omega,hend _ (Weak.to [1,3,4] [((1,0),1),((27,0),3)] ?_)⟩;simp[mkSt]
 ·have:k=F.arcs.length:=by omega
  subst this;simp[g.py,uq9,mkSt];refine hx' _ _ ?_;simpa[uq9,mkSt]using hx
noncomputable def kpB(Z:GAuto):List Bool:=andB (spF (prG Z.arcs) (zbm Z.ring Z.ini).length (zbm Z.ring Z.ini)) (spF (trn (prG Z.arcs)) (zbm Z.ring Z.fin).length (zbm Z.ring Z.fin))
theorem zyv{Z:GAuto}{N:Nat}(hN:N<=100000)(li:Z.ini.length=N)(lf:Z.fin.length=N)(hl:Z.arcs.length<=100000)(hf:∀ x∈Z.arcs,(0<=x.f/\x.f<(N:Int))/\0<=x.t/\x.t<(N:Int))(si:∀ w∈Z.ini,w.sm 1048576)(sf:∀ w∈Z.fin,w.sm 1048576) :
  Sp P F.j9 [enc Z] (.pure (.sl (ens (kpB Z)))):=by
 have v1:=zxs Z.ring Z.ini (by omega) si;have v2:=zxs Z.ring Z.fin (by omega) sf;have l1:(zbm Z.ring Z.ini).length=N:=by rw[<- li];simp[zbm]
 have l2:(zbm Z.ring Z.fin).length=N:=by rw[<- lf];simp[zbm]
 have vb:=z9t (zbm Z.ring Z.ini) (zbm Z.ring Z.fin) (prG Z.arcs) (by omega) (by omega) (by simp[prG];omega) (by
  intro p hp;obtain⟨x,hx,rfl⟩:=ym5.1 hp;rw[l1];exact hf x hx)
 have e:kpB Z=andB (spF (prG Z.arcs) (zbm Z.ring Z.ini).length (zbm Z.ring Z.ini)) (spF (trn (prG Z.arcs)) (zbm Z.ring Z.fin).length (zbm Z.ring Z.fin)):=rfl;rw[<- e]at vb;clear e;generalize kpB Z=m at *
 generalize zbm Z.ring Z.ini=A at *
 generalize zbm Z.ring Z.fin=B at *
 refine Sp.vz c.j9 fun _=>?_;simp[g.j9];refine z57 (F:=Z) hl (Weak.nl 3 77 2 rfl (Weak.to [1,3,4] [((1,0),1),((77,0),3)] ?_)) ?_
 ·simp[uq9,mkSt,prG]
 simp only[uq9,mkSt,yml];generalize prG Z.arcs=ps at *
 simp;refine zab v1 ?_;simp;refine zab v2 ?_;simp[killAll];refine zab vb ?_;simp
theorem ydn{Z:GAuto}{N:Nat}(li:Z.ini.length=N)(lf:Z.fin.length=N):(kpB Z).length=N:=by
 have l1:(zbm Z.ring Z.ini).length=N:=by rw[<- li];simp[zbm]
 have l2:(zbm Z.ring Z.fin).length=N:=by rw[<- lf];simp[zbm]
 unfold kpB andB;rw[List.length_zipWith,zdd,zdd,l1,l2,Nat.min_self]
noncomputable def trmG(a:GAuto):GAuto:=kpG a.nf (kpB a.nf) a.st.toNat
theorem z59{a:GAuto}{n:Nat}(h:Lk a n)(hp:a.ring.parts.length<=1000000):Sp P F.j4 [enc a] (.pure (.tup [enc (trmG a),.int .i64 0])):=by
 have ok:=GAuto.vb_iff.1 h.vb;have hA:=h.ctr;have hN:=hA.N1;have il:=h.il;have ila:a.ini.length<=1000000:=by have:=ok.il;have:=ok.st2;omega
 have fla:a.fin.length<=1000000:=by have:=ok.fl;have:=ok.st2;omega
 have hv:=zrp a (h.sm.mono (by have:=h.n90;omega)) ila fla;rw[h.vb]at hv;have hf:=z8q a n h.n90 h.n3 h.sm h.al hp ila fla ok.ini ok.fin fun x hx=>(ok.arcs x hx).2.2.2.2.2.2;have hr:∀ x∈a.nf.arcs,(0<=x.f/\x.f<(a.st.toNat:Int))/\0<=x.t/\x.t<(a.st.toNat:Int):=fun x hx=>⟨hA.inN.f x hx,hA.t x hx⟩;have hu:=zyv (Z:=a.nf) (N:=a.st.toNat) (by omega) il hA.fl (by have:=hA.al;omega) hr h.ism h.fsm;have hk:=z78 (Z:=a.nf) (N:=a.st.toNat) (by omega) hA.inN.st il hA.fl (m:=kpB a.nf) (ydn il hA.fl) (by have:=hA.al;omega) hr;have e:trmG a=kpG a.nf (kpB a.nf) a.st.toNat:=rfl;rw[<- e]at hk;clear e;generalize trmG a=T at *
 generalize kpB a.nf=m at *
 generalize a.nf=A at *
 refine Sp.vz c.j4 fun _=>?_;simp[g.j4];refine zab hv ?_;simp;refine zab hf ?_;simp;refine zab hu ?_;simp[killAll];refine zab hk ?_;simp
end Go.Ab
namespace Go.Ab
open Enc (enc)
theorem z4a{N:Nat}{sy:Int}{p:GPlan}{arcs:List GArc}{x:GArc}(hx:arcOk N sy x)(h:∀ y∈arcs,arcOk N sy y):∀ y∈zm4 p arcs x,arcOk N sy y:=by
 unfold zm4;split
 ·exact h
 ·split
  ·exact h
  ·intro y hy;rcases ymc.1 hy with hy|hy
   ·exact h y hy
   ·rw[ymj]at hy;subst hy;exact yac _ hx
theorem ya2{p:GPlan}{N:Nat}{sy:Int}(hs:1<=sy)(at0:Nat):∀ i,∀ y∈(a3 wkT p sy N at0 i).2,arcOk N sy y
 | 0=>fun y hy=>(by cases hy)
 | i+1=>by
  have ih:=ya2 (p:=p) (N:=N) hs at0 i;simp only[a3,zpu];split
  ·rename_i h;exact z4a (z5u h.2 hs) ih
  ·exact ih
structure Md (a:GAuto):Prop where
 lk:Lk a 3
 ring:a.ring=⟨2,[]⟩
 st:a.st<=5
 arcs:∀ x∈a.arcs,1<=x.l/\tw x.w 5
theorem zli{p:GPlan}{most:Int}(h0:0<=most)(h5:most<=5):Md (zgj wkT p most):=by
 have hsr:=zck p.sy (show(1:Int)<=3 by omega);have hnr:=zck p.st (show(1:Int)<=most+1 by omega);have hN:autN p most<=5:=by unfold autN;omega
 have hS:1<=autS p/\autS p<=3:=by unfold autS;omega
 have hP:zgj wkT p most=⟨⟨2,[]⟩,autS p,autN p most,mp (autN p most) (iE wkT p),mp (autN p most) (fE wkT p (autN p most)),(a3 wkT p (autS p) (autN p most) (pA wkT p.L (autN p most)) 14).2⟩:=rfl;have A1:=ya2 (p:=p) (N:=autN p most) hS.1 (pA wkT p.L (autN p most)) 14;have hal:=zys wkT p (autS p) (autN p most) (pA wkT p.L (autN p most)) 14;generalize (a3 wkT p (autS p) (autN p most) (pA wkT p.L (autN p most)) 14).2=arcs at *
 generalize autN p most=N at *
 generalize autS p=sy at *
 rw[hP];have ok:GAuto.ok ⟨⟨2,[]⟩,sy,N,mp N (iE wkT p),mp N (fE wkT p N),arcs⟩:=by
  refine⟨zuh,hS.1,by show sy<=32;omega,by show(0:Int)<=N;omega,by show(N:Int)<=64;omega,by simp[zbr],by simp[zbr],by show arcs.length<=2048;omega,fun x hx=>?_,fun w hw=>?_,fun w hw=>?_⟩
  ·have h:=A1 x hx;exact⟨h.f.1,h.f.2,h.t.1,h.t.2,by have:=h.l.1;omega,h.l.2,zgo h.w (by omega)⟩
  ·obtain⟨i,_,rfl⟩:=zso hw;exact zgo (yg0 p i) (by omega)
  ·obtain⟨i,_,rfl⟩:=zso hw;exact zgo (yg4 p N i) (by omega)
 refine⟨⟨by omega,by omega,⟨fun w hw=>?_,fun w hw=>?_,fun x hx=>zlw (A1 x hx).w⟩,by show arcs.length<=19;omega,GAuto.vb_iff.2 ok,fun x hx=>?_,by show(N:Int)<=16;omega⟩,rfl,by show(N:Int)<=5;omega,fun x hx=>⟨(A1 x hx).l.1,(A1 x hx).w⟩⟩
 ·obtain⟨i,_,rfl⟩:=zso hw;exact zlw (yg0 p i)
 ·obtain⟨i,_,rfl⟩:=zso hw;exact zlw (yg4 p N i)
 ·obtain⟨y,hy,ey⟩:=zt2 (key:=GArc.key) (wt:=GArc.w) (up:=upA ⟨2,[]⟩) zuh (fun _ _=>rfl) (fun _ _=>rfl) (fun x hx=>(ok.arcs x hx).2.2.2.2.2.2) hx;have h:=(A1 y hy).l;simp only[GArc.key,ypy,and_true]at ey;omega
theorem z71{p:GPlan}(hp:p.sg=true){most:Int}:sgl (zgj wkT p most).arcs/\∀ i,(hi:i<(zgj wkT p most).ini.length)->0<i->(zgj wkT p most).ini[i]=(zgj wkT p most).ring.zero:=by
 have hsr:=zck p.sy (show(1:Int)<=3 by omega);have hS:1<=autS p/\autS p<=3:=by unfold autS;omega
 refine⟨(yh8 hp (N:=autN p most) hS.1 (pA wkT p.L (autN p most)) 14).2,fun i hi h0=>?_⟩;have hi2:i<(mp (autN p most) (iE wkT p)).length:=hi;show(mp (autN p most) (iE wkT p))[i]'hi2=GRing.zero ⟨2,[]⟩;rw[zdv _ hi2];unfold iE;rw[ym0 ⟨.inr hp,h0⟩];rfl
def tc(on:List Bool):Nat:=on.count true
theorem ycz(on:List Bool)(i y:Nat):(on.set i true).getD y false=true ↔ on.getD y false=true\/(i=y/\y<on.length):=by
 rw[ym8,ym8];by_cases h:i=y
 ·subst h;by_cases hl:i<on.length
  ·rw[List.getElem?_set_self hl];simp[hl]
  ·rw[yo6 (by simp;omega),yo6 (by omega)];simp[hl]
 ·rw[List.getElem?_set_ne h];simp[h]
theorem zt8(on:List Bool)(p:Int × Int)(y:Nat):(spS on p).getD y false=true ↔ on.getD y false=true\/(on.getD p.1.toNat false=true/\p.2.toNat=y/\y<on.length):=by
 unfold spS;split
 ·rename_i h;rw[ycz];exact⟨fun k=>k.imp id fun k=>⟨h,k⟩,fun k=>k.imp id fun k=>k.2⟩
 ·rename_i h;exact⟨.inl,fun k=>k.elim id fun k=>absurd k.1 h⟩
theorem zfm(ps:List (Int × Int))(y:Nat):∀ {on:List Bool},on.getD y false=true->(spR ps on).getD y false=true:=by
 induction ps with
 | nil=>exact fun h=>h
 | cons p ps ih=>exact fun h=>ih ((zt8 _ p y).2 (.inl h))
theorem ybv(a b:List (Int × Int))(on:List Bool):spR (a++b) on=spR b (spR a on):=yo1 ..
theorem zoe{ps:List (Int × Int)}{on:List Bool}(h:spR ps on=on):∀ p∈ps,p.2.toNat<on.length->on.getD p.1.toNat false=true->on.getD p.2.toNat false=true:=by intro p hp hl h1;obtain⟨a,b,rfl⟩:=yql hp;have h2:(spR b (spS (spR a on) p)).getD p.2.toNat false=true:=zfm b _ ((zt8 _ _ _).2 (.inr ⟨zfm a _ h1,rfl,by rw[zjp];exact hl⟩));have h3:spR (a++p::b) on=spR b (spS (spR a on) p):=ybv a (p::b) on;rw[<- h3,h]at h2;exact h2
theorem ybu{ps:List (Int × Int)}{C:Nat->Prop}(hC:∀ p∈ps,C p.1.toNat->C p.2.toNat):∀ {on:List Bool},(∀ y,on.getD y false=true->C y)->∀ y,(spR ps on).getD y false=true->C y:=by
 induction ps with
 | nil=>exact fun h=>h
 | cons p ps ih =>
  intro on h;refine ih (fun q hq=>hC q (ymr _ hq)) fun y hy=>?_;rcases(zt8 _ _ _).1 hy with h1|⟨h1,rfl,_⟩
  ·exact h y h1
  ·exact hC p yne (h _ h1)
theorem zt9{ps:List (Int × Int)}{C:Nat->Prop}(hC:∀ p∈ps,C p.1.toNat->C p.2.toNat):∀ (n:Nat) {on:List Bool},(∀ y,on.getD y false=true->C y)->∀ y,(spF ps n on).getD y false=true->C y
 | 0,_,h=>h
 | n+1,_,h=>zt9 hC n (ybu hC h)
theorem zj5(ps:List (Int × Int))(y:Nat):∀ (n:Nat) {on:List Bool},on.getD y false=true->(spF ps n on).getD y false=true
 | 0,_,h=>h
 | n+1,_,h=>zj5 ps y n (zfm ps y h)
theorem yj3:∀ (on:List Bool),tc on<=on.length:=fun on=>yqb
theorem z6j:∀ {a b:List Bool},a.length=b.length->(∀ y,a.getD y false=true->b.getD y false=true)->a≠b->tc a<tc b
 | [],[],_,_,h=>absurd rfl h
 | x::a,y::b,hl,h,hne=>by
  have h0:=h 0;have hs:∀ k,a.getD k false=true->b.getD k false=true:=fun k=>h (k+1);simp only[List.getD_cons_zero]at h0;have hle:tc a<=tc b:=by
   by_cases e:a=b
   ·rw[e];exact ym9 _
   ·exact Nat.le_of_lt (z6j (by simpa using hl) hs e)
  unfold tc at *
  by_cases e:a=b
  ·subst e;cases x<;>cases y<;>simp[List.count_cons]at h0 hne ⊢
  ·have:=z6j (a:=a) (b:=b) (by simpa using hl) hs e;unfold tc at this;cases x<;>cases y<;>simp[List.count_cons]at h0 ⊢ <;> omega
theorem zwk(ps:List (Int × Int))(on:List Bool):∀ k,(∃ j,j<=k/\spR ps (spF ps j on)=spF ps j on)\/k+1<=tc (spF ps (k+1) on)
 | 0=>by
  by_cases h:spR ps (spF ps 0 on)=spF ps 0 on
  ·exact .inl ⟨0,ym9 _,h⟩
  ·refine .inr ?_;have:=z6j (a:=on) (b:=spR ps on) (zjp ps on).symm (fun y=>zfm ps y) (fun e=>h e.symm);show 0+1<=tc (spR ps on);omega
 | k+1=>by
  rcases zwk ps on k with⟨j,h1,h2⟩|h
  ·exact .inl ⟨j,by omega,h2⟩
  ·by_cases hs:spR ps (spF ps (k+1) on)=spF ps (k+1) on
   ·exact .inl ⟨k+1,ym9 _,hs⟩
   ·refine .inr ?_;have:=z6j (a:=spF ps (k+1) on) (b:=spR ps (spF ps (k+1) on)) (zjp ps _).symm (fun y=>zfm ps y) (fun e=>hs e.symm);rw[zk9 ps (k+1)];omega
theorem z1e{ps:List (Int × Int)}{on:List Bool}{j:Nat}(h:spR ps (spF ps j on)=spF ps j on):∀ d,spF ps (j+d) on=spF ps j on
 | 0=>rfl
 | d+1=>by rw[<- Nat.add_assoc,zk9,z1e h d,h]
theorem zof(ps:List (Int × Int))(on:List Bool):spR ps (spF ps on.length on)=spF ps on.length on:=by
 rcases zwk ps on on.length with⟨j,h1,h2⟩|h
 ·have:=z1e h2 (on.length - j);rw[show j+(on.length - j)=on.length by omega]at this;rw[this];exact h2
 ·have:=yj3 (spF ps (on.length+1) on);rw[zdd]at this;omega
theorem z6s{A:GAuto}{N:Nat}(h:StOk A N):spF (prG A.arcs) (zbm A.ring A.ini).length (zbm A.ring A.ini)=begV A N:=by
 have hl:(zbm A.ring A.ini).length=N:=by rw[<- h.il];simp[zbm]
 have hg:∀ q,(zbm A.ring A.ini).getD q false=true ↔ begP A N q:=by
  intro q;unfold begP;by_cases hq:q<N
  ·have hqi:q<A.ini.length:=by rw[h.il];exact hq
   rw[ym8,ym8,yma (by omega:q<(zbm A.ring A.ini).length),yma hqi];simp[zbm,hq]
  ·rw[ym8,yo6 (by omega)];simp[hq]
 refine zxf (by rw[zdd,hl]) (fun q _ hb=>zj5 _ _ _ ((hg q).2 hb)) (fun q hb=>hb.1) (fun q hq=>zt9 (C:=Mk fT tT A.arcs (begP A N)) ?_ _ (fun y hy=>.base ((hg y).1 hy)) q hq) ?_
 ·intro p hp hm;obtain⟨x,hx,rfl⟩:=ym5.1 hp;exact .step hx hm
 ·intro x hx hu;refine zoe (zof _ _) (x.f,x.t) (ym5.2 ⟨x,hx,rfl⟩) ?_ hu;rw[zdd,hl];have:=h.t x hx;show x.t.toNat<N;omega
theorem z6r{A:GAuto}{N:Nat}(h:StOk A N):spF (trn (prG A.arcs)) (zbm A.ring A.fin).length (zbm A.ring A.fin)=endV A N:=by
 have hl:(zbm A.ring A.fin).length=N:=by rw[<- h.fl];simp[zbm]
 have hg:∀ q,(zbm A.ring A.fin).getD q false=true ↔ endP A N q:=by
  intro q;unfold endP;by_cases hq:q<N
  ·have hqi:q<A.fin.length:=by rw[h.fl];exact hq
   rw[ym8,ym8,yma (by omega:q<(zbm A.ring A.fin).length),yma hqi];simp[zbm,hq]
  ·rw[ym8,yo6 (by omega)];simp[hq]
 refine zxf (by rw[zdd,hl]) (fun q _ hb=>zj5 _ _ _ ((hg q).2 hb)) (fun q hb=>hb.1) (fun q hq=>zt9 (C:=Mk tT fT A.arcs (endP A N)) ?_ _ (fun y hy=>.base ((hg y).1 hy)) q hq) ?_
 ·intro p hp hm;obtain⟨p2,hp2,rfl⟩:=ym5.1 hp;obtain⟨x,hx,rfl⟩:=ym5.1 hp2;exact .step hx hm
 ·intro x hx hu;refine zoe (zof _ _) (x.t,x.f) (ym5.2 ⟨(x.f,x.t),ym5.2 ⟨x,hx,rfl⟩,rfl⟩) ?_ hu;rw[zdd,hl];have:=h.f x hx;show x.f.toNat<N;omega
theorem ygr{A:GAuto}{N:Nat}(h:StOk A N):kpB A=usV A N:=by
 unfold kpB usV;rw[z6s h,z6r h];have l1:=z9v A N;have l2:=zyg A N;apply yoq
 ·simp[andB,zbf,l1,l2]
 ·intro i h1 h2;have hi:i<N:=by rw[zbf]at h2;exact h2
  have g1:(begV A N).getD i false=(begV A N)[i]'(by omega):=by rw[ym8,yma (by omega)];rfl
  have g2:(endV A N).getD i false=(endV A N)[i]'(by omega):=by rw[ym8,yma (by omega)];rfl
  have g3:(andV (endV A N) (begV A N) N N)[i]'h2=((endV A N).getD i false&&(begV A N).getD i false):=by
   have e:(andV (endV A N) (begV A N) N N)[i]'h2=(andV (endV A N) (begV A N) N N).getD i false:=by rw[ym8,yma h2];rfl
   rw[e,andV,ym8,yma (by rw[zbr];exact hi),ynj,zdv,ym0 hi]
  rw[g3,g1,g2,Bool.and_comm];simp only[andB,List.getElem_zipWith]
theorem z5f{m:List Bool}:∀ {k:Nat},k<=m.length->cnt m k=sgU (fun q=>m.getD q false) k
 | 0,_=>rfl
 | k+1,h=>by have ih:=z5f (m:=m) (k:=k) (by omega);rw[zyl (by omega),zpy,ih];rw[ym8,yma (by omega),ynj];cases m[k]<;>simp
theorem z1z{m:List Bool}{l:List GW}(d:GW):∀ {k:Nat},k<=m.length->k<=l.length->sel (m.take k) (l.take k)=(uL (fun q=>m.getD q false) k).map fun q=>l.getD q d
 | 0,_,_=>by simp[sel,uL]
 | k+1,h,h2=>by
  have ih:=z1z (m:=m) (l:=l) d (k:=k) (by omega) (by omega);rw[zlc (by omega) (by omega),zt0,ih];rw[ym8,yma (by omega),ynj];cases m[k]with
  | false=>simp
  | true =>
   simp only[ym2,ynm,ymi,yq3];rw[ym8,yma (by omega:k<l.length),ynj]
theorem ydm{A:GAuto}{N:Nat}(h:StOk A N):kpG A (kpB A) N=trmA A (usB A N) N:=by
 rw[ygr h];have hl:(usV A N).length=N:=zbf _ _ _ _;have e:usB A N=fun q=>(usV A N).getD q false:=rfl;rw[e];generalize usV A N=m at *
 unfold kpG trmA;have s1:=z1z (m:=m) (l:=A.ini) A.ring.zero (k:=N) (by omega) (by have:=h.il;omega);have s2:=z1z (m:=m) (l:=A.fin) A.ring.zero (k:=N) (by omega) (by have:=h.fl;omega);rw[ymh (by omega),ymh (by have:=h.il;omega)]at s1;rw[ymh (by omega),ymh (by have:=h.fl;omega)]at s2;rw[s1,s2,z5f (by omega)]
 congr 1
 unfold kqA;have ef:A.arcs.filter (kqP m)=A.arcs.filter (kpA fun q=>m.getD q false):=rfl;rw[ef];refine ync fun x hx=>?_;obtain⟨h1,h2⟩:=yn3.1 hx;simp only[kpA,ymd]at h2;have hf:=h.f x h1;have ht:=h.t x h1;have g:∀ q,q<N->m.getD q false=true->(toF m).getD q 0=((sgU (fun q=>m.getD q false) q:Nat):Int):=by
  intro q hq hu;have hq2:q<m.length:=by omega
  have hq3:q<(toF m).length:=by rw[zlz];exact hq2
  rw[ym8,yma hq3,ynj,z0t hq2];rw[ym8,yma hq2,ynj]at hu;rw[ym0 hu,z5f (by omega)]
 unfold kqR zeo;rw[g x.f.toNat (by omega) h2.1,g x.t.toNat (by omega) h2.2];rfl
theorem zrz{l:Int}:∀ {F:List GArc},F.Pairwise (fun x y=>x.l<=y.l)->(∀ x∈F,l<=x.l)->(F.takeWhile fun x=>decide (x.l=l))=F.filter fun x=>decide (x.l=l)
 | [],_,_=>rfl
 | x::F,hp,hl=>by
  obtain⟨h1,h2⟩:=ymv.1 hp;have ih:=zrz h2 fun y hy=>hl y (ymr _ hy);rw[List.takeWhile_cons,yng];by_cases e:x.l=l
  ·simp[e,ih]
  ·have hx:=hl x yne;have:F.filter (fun x=>decide (x.l=l))=[]:=by rw[yqu];intro y hy;have:=h1 y hy;simp;omega
   simp[e,this]
theorem zl3{l:Int}:∀ {F:List GArc},F.Pairwise (fun x y=>x.l<=y.l)->stpL F l=F.filter fun x=>decide (x.l=l)
 | [],_=>rfl
 | x::F,hp=>by
  obtain⟨h1,h2⟩:=ymv.1 hp;have ih:=zl3 (l:=l) h2;unfold stpL at ih ⊢;rw[List.dropWhile_cons];by_cases h:x.l<l
  ·rw[if_pos (by simpa using h),ih,List.filter_cons,if_neg (by simp;omega)]
  ·rw[if_neg (by simpa using h)];exact zrz hp fun y hy=>by
    rcases ym3.1 hy with rfl|hy
    ·omega
    ·have:=h1 y hy;omega
theorem z01{A:GAuto}(hs:SSrt GArc.key A.arcs)(U:List Bool):tgT A U=tgt A (usf U):=by
 funext q l;unfold tgT tgS tgt za7;have hp:(A.arcs.filter fun x=>decide (x.f=(q:Int))).Pairwise fun x y=>x.l<=y.l:=by have h0:A.arcs.Pairwise fun a b=>a.key<b.key:=hs;refine(yq2 List.filter_sublist h0).imp_of_mem ?_;intro a b ha hb hab;have h1:=of_decide_eq_true (yn3.1 ha).2;have h2:=of_decide_eq_true (yn3.1 hb).2;simp only[GArc.key,z35]at hab;omega
 rw[zl3 hp,List.filter_filter];have e:(fun x:GArc=>decide (x.l=(l:Int))&&decide (x.f=(q:Int)))=fun x=>decide (x.f=(q:Int))&&decide (x.l=(l:Int)):=by funext x;exact Bool.and_comm _ _
 rw[e];rfl
theorem Lk.srt{a:GAuto}{n:Nat}(h:Lk a n):SSrt GArc.key a.nf.arcs:=by have ok:=GAuto.vb_iff.1 h.vb;have h1:=(zgr ok.ring (l:=a.arcs) fun x hx=>(ok.arcs x hx).2.2.2.2.2.2).1;rw[<- zl1]at h1;exact h1
theorem Lk.stOk{a:GAuto}{n:Nat}(h:Lk a n):StOk a.nf a.st.toNat:=⟨h.ctr.inN.st,h.il,h.ctr.fl,h.ctr.inN.f,h.ctr.t⟩
theorem Lk.grw{a:GAuto}{n:Nat}(h:Lk a n):grwA a=grw (tgt a.nf (usB a.nf a.st.toNat)) a.st.toNat (usB a.nf a.st.toNat) (nzI a.nf) (nzF a.nf) a.sy.toNat 0 1 2 3:=by unfold grwA;rw[z01 h.srt];rfl
theorem zlx{a:GAuto}{n:Nat}(h:Lk a n):trmG a=trmA a.nf (usB a.nf a.st.toNat) a.st.toNat:=ydm h.stOk
theorem zpm{a:GAuto}{n:Nat}(h:Lk a n):(trmG a).ok:=by rw[zlx h];exact yfk (zw9 (GAuto.vb_iff.1 h.vb)) h.stOk
theorem z0o{a:GAuto}{n:Nat}(h:Lk a n):(trmG a).nf=trmG a:=by
 have ok:=GAuto.vb_iff.1 h.vb;have b2:=(zgr ok.ring (l:=a.arcs) fun x hx=>(ok.arcs x hx).2.2.2.2.2.2).2.1;rw[<- zl1]at b2;refine yc4 (zpm h) ?_ ?_
 ·rw[zlx h];exact ybg h.stOk h.srt
 ·rw[zlx h];intro x hx;obtain⟨y,hy,rfl⟩:=ym5.1 (show x∈(a.nf.arcs.filter (kpA (usB a.nf a.st.toNat))).map (zeo (usB a.nf a.st.toNat)) from hx);exact(b2 y (yn3.1 hy).1).2
theorem ybk{l:List GArc}(h:∀ x∈l,tw x.w 5/\x.w.chk ⟨2,[]⟩):∀ x∈tidA ⟨2,[]⟩ l,x.w.sm 3:=fun x hx=>by
 have hs:=zc0 (key:=GArc.key) l;have h':∀ x∈srt GArc.key l,tw x.w 5/\x.w.chk ⟨2,[]⟩:=fun x hx=>h x ((hs.2.2 x).1 hx)
 have iv:=zqh (key:=GArc.key) (up:=upA ⟨2,[]⟩) (nw:=id) (Q:=fun _ x=>tw x.w 5) (fun k x hx=>hx) (l:=srt GArc.key l) (fun x hx=>(h' x hx).1)
  (fun k z x hx hz=>(ybe hz (h' x hx).1:tw (GRing.plus ⟨2,[]⟩ z.w x.w) 5)) (fun k x hx=>hx) _ (ym9 _)
 rw[ymh (ym9 _),hs.2.1]at iv;exact zlw (iv.2 x (yn3.1 hx).1)
theorem Md.nfw{a:GAuto}(h:Md a):∀ x∈a.nf.arcs,x.w.sm 3:=by
 have ok:=GAuto.vb_iff.1 h.lk.vb;have e:a.nf.arcs=tidA ⟨2,[]⟩ a.arcs:=by rw[<- h.ring];rfl
 rw[e];exact ybk fun x hx=>⟨(h.arcs x hx).2,by rw[<- h.ring];exact(ok.arcs x hx).2.2.2.2.2.2⟩
theorem z0p{a:GAuto}(h:Md a):Lk (trmG a) 3:=by
 have hA:=h.lk.ctr;have hal:a.nf.arcs.length<=19:=ym6 (zwb a.ring a.arcs) h.lk.al;have hst:=h.lk.s16;have hle:sgU (usB a.nf a.st.toNat) a.st.toNat<=a.st.toNat:=by have:=ynk (usB a.nf a.st.toNat) (List.range a.st.toNat);rw[List.length_range]at this;exact this
 refine⟨by omega,by omega,⟨fun w hw=>?_,fun w hw=>?_,fun x hx=>?_⟩,?_,GAuto.vb_iff.2 (zpm h.lk),fun x hx=>?_,?_⟩
 ·exact h.lk.sm.ini w (zpz (show w∈sel (kpB a.nf) a.nf.ini from hw))
 ·exact h.lk.sm.fin w (zpz (show w∈sel (kpB a.nf) a.nf.fin from hw))
 ·obtain⟨y,hy,rfl⟩:=ym5.1 (show x∈(a.nf.arcs.filter (kqP (kpB a.nf))).map (kqR (kpB a.nf)) from hx);exact h.nfw y (yn3.1 hy).1
 ·exact ym6 (z33 _ _) hal
 ·rw[z0o h.lk]at hx;obtain⟨y,hy,rfl⟩:=ym5.1 (show x∈(a.nf.arcs.filter (kqP (kpB a.nf))).map (kqR (kpB a.nf)) from hx);exact h.lk.l0 y (yn3.1 hy).1
 ·rw[zlx h.lk];show((sgU (usB a.nf a.st.toNat) a.st.toNat:Nat):Int)<=16;omega
theorem z58{a:GAuto}(h:Md a):grwA (trmG a)=grwA a:=by rw[(z0p h).grw,h.lk.grw,z0o h.lk,zlx h.lk];exact(ydt h.lk.stOk (fun x hx=>ybd h.lk.stOk hx) _ 0 1 2 3).symm
theorem yj7{a:GAuto}(ok:a.ok)(hs:sgl a.arcs){x y:GArc}(hx:x∈a.nf.arcs)(hy:y∈a.nf.arcs)(ef:x.f=y.f)(el:x.l=y.l):x.t=y.t:=by
 have hc:∀ x∈a.arcs,x.w.chk a.ring:=fun x hx=>(ok.arcs x hx).2.2.2.2.2.2;have h2:∀ x∈a.nf.arcs,∃ y∈a.arcs,y.key=x.key:=fun x hx=>zt2 (key:=GArc.key) (wt:=GArc.w) (up:=upA a.ring) ok.ring (fun _ _=>rfl) (fun _ _=>rfl) hc hx;obtain⟨u,hu,eu⟩:=h2 x hx;obtain⟨v,hv,ev⟩:=h2 y hy;simp only[GArc.key,ypy,and_true]at eu ev;obtain⟨i,hi,rfl⟩:=yor.1 hu;obtain⟨j,hj,rfl⟩:=yor.1 hv;rcases yqn i j with h|h|h
 ·exact absurd ⟨by omega,by omega⟩ (yqs.1 hs i j hi hj h)
 ·subst h;omega
 ·exact absurd ⟨by omega,by omega⟩ (yqs.1 hs j i hj hi h)
theorem ydv{a:GAuto}{n:Nat}(h:Lk a n)(hs:sgl a.arcs)(h1:∀ i,(hi:i<a.ini.length)->0<i->a.ini[i]=a.ring.zero):grwA a=0:=by
 have ok:=GAuto.vb_iff.1 h.vb;have hil:=h.il;have z:∀ s,s<a.st.toNat->nzI a.nf s=true->s=0:=by
  intro s hs hz;rcases ynx s with h0|h0
  ·exact h0
  ·have hi:s<a.ini.length:=by have:a.nf.ini.length=a.ini.length:=rfl;omega
   exfalso;unfold nzI at hz;rw[decide_eq_true_eq]at hz;apply hz;rw[ym8,yma (show s<a.nf.ini.length from hi)];exact h1 s hi h0
 rw[h.grw];unfold grw;rw[ym0];refine ybf (yaa h.stOk) (fun x y hx hy bx by'=>?_) (fun q l x hx y hy=>?_) _
 ·simp only[ymd]at bx by';rw[z x hx bx.2,z y hy by'.2]
 ·obtain⟨u,hu,u1,u2,rfl,_⟩:=zms.1 hx;obtain⟨v,hv,v1,v2,rfl,_⟩:=zms.1 hy;have:=yj7 ok hs hu hv (by omega) (by omega);unfold tT;rw[this]
end Go.Ab
namespace Go.Ab
open Enc (enc)
attribute [local simp] zaj Opd.slots
def kc(f t:Int):GArc:=⟨f,1,t,gw0⟩
def ginf:GW:=.mk gr0 0 true 0 [] []
theorem z4g:ginf=GRing.zero ⟨2,[]⟩:=by simp[GRing.zero,zuh,ginf]
theorem znd:tw ginf 5:=⟨0,true,rfl,by omega,by omega,fun _=>rfl⟩
def kM:GAuto:=⟨⟨2,[]⟩,1,2,[gw0,ginf],[gw0,ginf],[kc 0 1,kc 0 0,kc 1 0]⟩
def kN:List GArc:=[kc 0 0,kc 0 1,kc 1 0]
theorem ygu:mrg GArc.key (upA ⟨2,[]⟩) id (srt GArc.key [kc 0 1,kc 0 0,kc 1 0])=kN:=by
 have h1:srt GArc.key [kc 0 1,kc 0 0,kc 1 0]=kN:=by simp[srt,insR,kN,kc,GArc.key,yrc]
 rw[h1];simp[mrg,mst,kN,kc,GArc.key]
theorem z79:kM.nf.arcs=kN:=by
 show tidA ⟨2,[]⟩ [kc 0 1,kc 0 0,kc 1 0]=kN;unfold tidA;rw[ygu];have:∀ x∈kN,(!decide (x.w=GRing.zero ⟨2,[]⟩))=true:=by
  intro x hx;have hw:x.w=gw0:=by simp only[kN,ym3,ynd,or_false]at hx;rcases hx with rfl|rfl|rfl<;>rfl
  rw[hw];simpa using zo9
 exact yqv.2 this
theorem ykm:kM.ok:=by
 refine⟨zuh,by decide,by decide,by decide,by decide,rfl,rfl,by decide,fun x hx=>?_,fun w hw=>?_,fun w hw=>?_⟩
 ·have:x=kc 0 1\/x=kc 0 0\/x=kc 1 0:=by simpa[kM]using hx
  rcases this with rfl|rfl|rfl
  ·exact⟨by decide,by decide,by decide,by decide,by decide,by decide,zgo zi8 (by omega)⟩
  ·exact⟨by decide,by decide,by decide,by decide,by decide,by decide,zgo zi8 (by omega)⟩
  ·exact⟨by decide,by decide,by decide,by decide,by decide,by decide,zgo zi8 (by omega)⟩
 ·have:w=gw0\/w=ginf:=by simpa[kM]using hw
  rcases this with rfl|rfl
  ·exact zgo zi8 (by omega)
  ·exact zgo znd (by omega)
 ·have:w=gw0\/w=ginf:=by simpa[kM]using hw
  rcases this with rfl|rfl
  ·exact zgo zi8 (by omega)
  ·exact zgo znd (by omega)
theorem ygw:Lk kM 3:=by
 refine⟨by omega,by omega,⟨fun w hw=>?_,fun w hw=>?_,fun x hx=>?_⟩,by decide,GAuto.vb_iff.2 ykm,fun x hx=>?_,by decide⟩
 ·have:w=gw0\/w=ginf:=by simpa[kM]using hw
  rcases this with rfl|rfl
  ·exact zlw zi8
  ·exact zlw znd
 ·have:w=gw0\/w=ginf:=by simpa[kM]using hw
  rcases this with rfl|rfl
  ·exact zlw zi8
  ·exact zlw znd
 ·have:x=kc 0 1\/x=kc 0 0\/x=kc 1 0:=by simpa[kM]using hx
  rcases this with rfl|rfl|rfl<;>exact zlw zi8
 ·rw[z79]at hx;simp only[kN,ym3,ynd,or_false]at hx;rcases hx with rfl|rfl|rfl<;>decide
theorem yar:begP kM.nf 2 0:=⟨by omega,zo9⟩
theorem yaq:endP kM.nf 2 0:=⟨by omega,zo9⟩
theorem ygs(q:Nat):usB kM.nf 2 q=decide (q<2):=by
 have m1:kc 0 1∈kM.nf.arcs:=by rw[z79];simp[kN]
 have m2:kc 1 0∈kM.nf.arcs:=by rw[z79];simp[kN]
 rw[yoh,decide_eq_true_eq,ze4];refine⟨fun h=>h.1,fun h=>⟨h,?_⟩⟩;obtain rfl|rfl:q=0\/q=1:=by omega
 ·exact⟨.base yaq,.base yar⟩
 ·exact⟨.step (x:=kc 1 0) m2 (.base yaq),.step (x:=kc 0 1) m1 (.base yar)⟩
theorem yap:usV kM.nf 2=[true,true]:=by
 have hl:(usV kM.nf 2).length=2:=zbf _ _ _ _;have h0:=ygs 0;have h1:=ygs 1;unfold usB at h0 h1;generalize usV kM.nf 2=l at *
 match l,hl with
 | [x,y],_=>simp at h0 h1;rw[h0,h1]
theorem ykn:nzI kM.nf=fun q=>decide (q=0):=by
 funext q;unfold nzI;have z:(kM.nf.ini.getD 0 kM.nf.ring.zero≠kM.nf.ring.zero):=zo9
 match q with
 | 0=>simpa using z
 | 1 =>
  have:kM.nf.ini.getD 1 kM.nf.ring.zero=kM.nf.ring.zero:=z4g;rw[this];simp
 | q+2 =>
  have:kM.nf.ini.getD (q+2) kM.nf.ring.zero=kM.nf.ring.zero:=rfl;rw[this];simp
theorem ygv:nzF kM.nf=fun q=>decide (q=0):=by
 funext q;unfold nzF;have z:(kM.nf.fin.getD 0 kM.nf.ring.zero≠kM.nf.ring.zero):=zo9
 match q with
 | 0=>simpa using z
 | 1 =>
  have:kM.nf.fin.getD 1 kM.nf.ring.zero=kM.nf.ring.zero:=z4g;rw[this];simp
 | q+2 =>
  have:kM.nf.fin.getD (q+2) kM.nf.ring.zero=kM.nf.ring.zero:=rfl;rw[this];simp
def kT(q l:Nat):List Nat:=if l=1 then(if q=0 then[0,1]else if q=1 then[0]else[])else[]
theorem ygt:tgT kM.nf [true,true]=kT:=by
 funext q l;unfold tgT tgS kT;rw[z79];by_cases hl:l=1
 ·subst hl
  match q with
  | 0=>rfl
  | 1=>rfl
  | q+2 =>
   have:za7 kN (q+2)=[]:=by unfold za7 kN kc;simp;omega
   rw[this];rfl
 ·rw[yl9 hl];have:stpL (za7 kN q) l=[]:=by
   rw[<- List.length_eq_zero_iff];rcases yqw (stpL (za7 kN q) l)with h|⟨a,b,h⟩
   ·rw[h];rfl
   ·exfalso;have hb:b∈stpL (za7 kN q) (l:Int):=by rw[h];simp
    obtain⟨h1,h2⟩:=zhl hb;have h3:=(yn3.1 h1).1;simp only[kN,ym3,ynd,or_false]at h3;have:b.l=1:=by rcases h3 with rfl|rfl|rfl<;>rfl
    omega
  rw[this];rfl
theorem ydo:lpG (tgT kM.nf (usV kM.nf kM.st.toNat)) kM.st.toNat (usf (usV kM.nf kM.st.toNat)) kM.sy.toNat (List.range' 0 kM.st.toNat)=some (0,[1,1]):=by show lpG (tgT kM.nf (usV kM.nf 2)) 2 (usf (usV kM.nf 2)) 1 (List.range' 0 2)=some (0,[1,1]);rw[yap,ygt];rfl
theorem ygx:grwA kM=3:=by unfold grwA;show grw (tgT kM.nf (usV kM.nf 2)) 2 (usf (usV kM.nf 2)) (nzI kM.nf) (nzF kM.nf) 1 0 1 2 3=3;rw[yap,ygt,ykn,ygv];rfl
theorem zj6:Sp P F.d0 [] (.pure (.bool true)):=by
 have hg:=zg6 ygw;have hl:=zxo ygw;rw[ygx]at hg;rw[ydo]at hl;refine Sp.of_mr c.d0 (by simp) ?_;unfold g.d0;generalize hR:(fun(ex:Exit) (st:St) (_:Option FA)=>retP [(0,none)] (RV.pure (.bool true)) ex st)=R;refine MR.gseq ?_;simp;refine MR.gseq ?_;simp;refine MR.gseq ?_;simp;refine MR.weak (st1:=mkSt [(2,.ptr 2 0 0 0)] [(2,⟨7,[.p (enc kM)]⟩)]) ((Weak.freezeTo (s:=2) (g:=0) (n:=3) [enc kM] [(13,0),(16,0),(20,0)] rfl (by simp[kM,kc,gw0,ginf,gr0,ens]) (by simp) (by simp)).trans (Weak.to [2] [((2,0),2)] (by simp[mkSt,killAll,St.setObj]))) ?_;generalize kM=A at *
 refine MR.of_vm ?_;simp[mkSt];refine zab hg ?_;simp;refine zab hl ?_;simp[ens];subst hR;simp
theorem lawDet_sp(p q:GPlan):Sp P F.oq [enc p,enc q] (.pure (.bool true)):=by
 have M1:Md (zgj wkT { p with sg:=true } 5):=zli (by omega) (by omega);have M2:Md (zgj wkT q 4):=zli (by omega) (by omega);obtain⟨s1,s2⟩:=z71 (p:={ p with sg:=true }) rfl (most:=5);have a1:=zln zk5 { p with sg:=true } 5 (by omega) (by omega);have a2:=zln zk5 q 4 (by omega) (by omega);have g1:=zg6 M1.lk;rw[ydv M1.lk s1 s2]at g1;have g2:=zg6 M2.lk;have t:=z59 M2.lk (by rw[M2.ring];simp);have L3:=z0p M2;have g3:=zg6 L3;rw[z58 M2]at g3;have v:=zrp (trmG (zgj wkT q 4)) (L3.sm.mono (by omega)) (by have:=(zpm M2.lk).il;have:=L3.s16;omega) (by have:=(zpm M2.lk).fl;have:=L3.s16;omega);rw[L3.vb]at v;have kn:=zj6;clear M1 M2 L3 s1 s2;generalize zgj wkT { p with sg:=true } 5=A1 at *
 generalize zgj wkT q 4=A2 at *
 generalize trmG A2=A3 at *
 generalize grwA A2=G at *
 refine Sp.vz c.oq fun _=>?_;simp[g.oq];refine zaa a1 (by simp[wkT]) ?_;simp;refine zab g1 ?_;simp;refine zaa a2 (by simp[wkT]) ?_;simp;refine zab t ?_;simp;refine zab g2 ?_;simp;refine zab g3 ?_;simp;refine zab kn ?_;simp;refine zab v ?_;simp
def adN(L:List GArc)(c:Nat)(g:Nat->Nat)(t:Nat):Nat:=g t+c*(L.filter fun x=>decide (tT x=t)).length
theorem z90(L:List GArc)(c:Nat)(g:Nat->Nat){k:Nat}(h:k<L.length)(t:Nat):adN (L.take (k+1)) c g t=if t=tT L[k]then adN (L.take k) c g t+c else adN (L.take k) c g t:=by
 unfold adN;rw[ymg h,yot,ymy,yng,List.filter_nil];by_cases e:t=tT L[k]
 ·subst e;simp[yn6,yob]
 ·rw[if_neg e,if_neg (by simpa using fun h=>e h.symm)];simp
theorem ya1(L:List GArc)(c:Nat)(g:Nat->Nat)(k t:Nat):adN (L.take k) c g t<=g t+c*L.length:=by unfold adN;refine Nat.add_le_add_left (ynu _ (ym6 (ynk _ _) ?_)) _;rw[yni];omega
def n2S(A:GAuto)(U:List Bool)(W:List Int)(N wi q:Nat)(l:Int)(f:Nat->Nat)(c:Nat)(L:List GArc)(g:Nat->Nat)(k:Nat):St :=
 mkSt [(4,.ptr 4 0 0 0),(6,.ptr 6 0 0 0),(11,.p (.int .i64 l)),(12,.own 81 0 0 N),(14,.ptr 14 0 0 0),(59,.p (.sl (ens W))),(60,.p (.int .i64 W.length)),(61,.p (.int .i64 wi)),(70,.own 80 0 0 N),(71,.p (.int .i64 N)),(72,.p (.int .i64 q)),(81,.p (.sl (ens L))),(82,.p (.int .i64 L.length)),(83,.p (.int .i64 k))]
  [(4,⟨3,[zR3]⟩),(6,⟨9,[.p (enc (pth A U))]⟩),(14,⟨3,[.p (enc (natR c))]⟩),(80,⟨3,avs (rowG N f)⟩),(81,⟨3,avs (rowG N g)⟩)]
theorem zwn(N:Nat)(g:Nat->Nat)(p v:Nat):(avs (rowG N g)).set p (.p (enc (natR v)))=avs (rowG N fun t=>if t=p then v else g t):=by
 have hs:∀ (l:List GRat) (i:Nat) (x:GRat),(avs l).set i (.p (enc x))=avs (l.set i x):=fun l i x=>by simp[-zas,avs,ens,yoo]
 rw[hs]
 congr 1
 unfold rowG;rw[zmp];apply zdm;intro q _;by_cases h:q=p<;>simp[h]
theorem yc9{A:GAuto}{U:List Bool}{W:List Int}{N wi q:Nat}{l:Int}{f:Nat->Nat}{c:Nat}{L:List GArc}{e0:Nat->Nat}{n:Nat}(hN:N<=64)(hL:∀ x∈L,0<=x.t/\x.t<(N:Int))(hLl:L.length<=2048)(hn:n<=1000)(hb:∀ t,e0 t+c*L.length<=2048^n)(hc:c<=2048^n)
  {Q:Exit->St->Prop} {ks:List Kt} {st:St} (hw:Weak st (n2S A U W N wi q l f c L e0 0)) (hx:zb8 P 119 Q (zay 7 ks) 7 (n2S A U W N wi q l f c L (adN L c e0) L.length)):vL P 119 Q g.pk ks st:=by
 have hz:adN (L.take 0) c e0=e0:=by funext t;simp[adN]
 refine zag (S:=fun k:Nat=>n2S A U W N wi q l f c L (adN (L.take k) c e0) k) (I:=fun k=>k<=L.length) (m:=fun k=>L.length - k) 0 (by rw[hz];exact hw) (by omega) ?_;rintro k hk R hn' hr hx';have e1:=i64s k;by_cases hlt:k<L.length
 ·have hs1:adN (L.take (k+1)) c e0=fun t=>if t=tT L[k]then adN (L.take k) c e0 (tT L[k])+c else adN (L.take k) c e0 t:=by
   funext t;rw[z90 L c e0 hlt];split
   ·rename_i h;rw[h]
   ·rfl
  have hend:∀ st',Weak st' (n2S A U W N wi q l f c L (adN (L.take (k+1)) c e0) (k+1))->R .normal st':=fun st' h=>hn' (k+1) st' h (by omega) (by omega);rw[hs1]at hend;have hbk:adN (L.take k) c e0 (tT L[k])<=2048^n:=ym6 (ya1 L c e0 k _) (hb _);obtain⟨t0,t1⟩:=hL _ (ym7 hlt);have htt:(L[k]).t=(tT L[k]:Int):=by unfold tT;omega
  have htN:tT L[k]<N:=by unfold tT;omega
  generalize tT L[k]=t at *
  generalize adN (L.take k) c e0=G at *
  have hrow:t<(rowG N G).length:=by rw[zeb];exact htN
  have g1:(rowG N G)[t]=natR (G t):=zp4 _ _;simp[g.pk,n2S,mkSt,hlt];refine zae hlt ?_;simp[htt,htN];refine⟨by rw[zeb];omega,zae hrow ?_⟩;rw[g1];refine zab (zid (natR (G t)) (natR c) (zyn hbk hn) (zyn hc hn)) ?_;rw[zxb];simp[e1,zeb,htN];refine zae hrow ?_;have hset:=zwn N G t (G t+c);rw[z4u]at hset;rw[hset];refine hend _ (Weak.to [4,6,11,12,14,59,60,61,70,71,72,81,82,83] [((4,0),4),((6,0),6),((14,0),14),((80,0),80),((81,0),81)] ?_);simp[n2S,mkSt,zR3]
 ·have:k=L.length:=by omega
  subst this;rw[yml]at *
  simp[g.pk,n2S,mkSt];refine hx' _ _ ?_;simpa[n2S,mkSt]using hx
def rwN(A:GAuto)(l:Int)(f:Nat->Nat):Nat->Nat->Nat
 | 0=>fun _=>0
 | q+1=>adN (stpL (za7 A.arcs q) l) (f q) (rwN A l f q)
theorem zpt(F:List GArc)(l:Int):(stpL F l).length<=F.length:=ym6 (List.takeWhile_sublist _).length_le (List.dropWhile_sublist _).length_le
theorem zxl{A:List GArc}(h:∀ x∈A,0<=x.f)(q:Nat):ltA A (q+1)=ltA A q+(za7 A q).length:=by
 unfold ltA za7
 induction A with
 | nil=>rfl
 | cons x A ih =>
  have ih:=ih fun y hy=>h y (ymr _ hy);simp only[yng];rcases yra x.f (q:Int)with h1|h1|h1
  ·have e1:x.f<((q+1:Nat):Int):=by omega
   have e2:¬ x.f=(q:Int):=by omega
   simp only[decide_eq_true_eq,e1,h1,e2,ym2,ymb,ymz];omega
  ·have e1:x.f<((q+1:Nat):Int):=by omega
   have e2:¬ x.f<(q:Int):=by omega
   simp only[decide_eq_true_eq,e1,e2,h1,ym2,ymb,ymz];split<;>simp_all<;>omega
  ·have e1:¬ x.f<((q+1:Nat):Int):=by omega
   have e2:¬ x.f=(q:Int):=by omega
   have e3:¬ x.f<(q:Int):=by omega
   simp only[decide_eq_true_eq,e1,e2,e3,ymb];exact ih
theorem z12{A:GAuto}(h:∀ x∈A.arcs,0<=x.f){l:Int}{f:Nat->Nat}{B:Nat}(hf:∀ t,f t<=B):∀ q t,rwN A l f q t<=B*ltA A.arcs q
 | 0,t=>yn0 _
 | q+1,t=>by have ih:=z12 h hf (l:=l) q t;have h1:=ya1 (stpL (za7 A.arcs q) l) (f q) (rwN A l f q) (stpL (za7 A.arcs q) l).length t;rw[yml]at h1;have h2:=zpt (za7 A.arcs q) l;have h3:f q*(stpL (za7 A.arcs q) l).length<=B*(za7 A.arcs q).length:=ymf (hf q) h2;rw[zxl h,yn6];show adN _ _ _ _<=_;omega
def n3S(A:GAuto)(U:List Bool)(W:List Int)(N wi q:Nat)(l:Int)(f g:Nat->Nat):St :=
 mkSt [(4,.ptr 4 0 0 0),(6,.ptr 6 0 0 0),(11,.p (.int .i64 l)),(12,.own 81 0 0 N),(59,.p (.sl (ens W))),(60,.p (.int .i64 W.length)),(61,.p (.int .i64 wi)),(70,.own 80 0 0 N),(71,.p (.int .i64 N)),(72,.p (.int .i64 q))]
  [(4,⟨3,[zR3]⟩),(6,⟨9,[.p (enc (pth A U))]⟩),(80,⟨3,avs (rowG N f)⟩),(81,⟨3,avs (rowG N g)⟩)]
theorem yc8{A:GAuto}{N:Nat}(hA:CtrOk A N){U:List Bool}{W:List Int}{wi:Nat}{l:Int}(hl0 : -1000<=l)(hl1:l<=1000){f:Nat->Nat}{n:Nat}(hn:n<=999)(hf:∀ t,f t<=2048^n)
  {Q:Exit->St->Prop} {ks:List Kt} {st:St} (hw:Weak st (n3S A U W N wi 0 l f fun _=>0)) (hx:zb8 P 119 Q (zay 5 ks) 5 (n3S A U W N wi N l f (rwN A l f N))):vL P 119 Q g.pm ks st:=by
 have hN:=hA.N1;refine zag (S:=fun q:Nat=>n3S A U W N wi q l f (rwN A l f q)) (I:=fun q=>q<=N) (m:=fun q=>N - q) 0 hw (yn0 _) ?_;intro q hq R hn' hr hx';have e1:=i64s q;by_cases hlt:q<N
 ·have hend:∀ st',Weak st' (n3S A U W N wi (q+1) l f (rwN A l f (q+1)))->R .normal st':=fun st' h=>hn' (q+1) st' h (by omega) (by omega);have hrw:rwN A l f (q+1)=adN (stpL (za7 A.arcs q) l) (f q) (rwN A l f q):=rfl;rw[hrw]at hend;have hst:=zv1 A N q l hA.inN hA.fs hlt (by omega) (by have:=hA.al;omega);have hrow:q<(rowG N f).length:=by rw[zeb];exact hlt
  have g1:(rowG N f)[q]=natR (f q):=zp4 _ _;have hf0:∀ x∈A.arcs,0<=x.f:=fun x hx=>(hA.inN.f x hx).1;have hb:∀ t,rwN A l f q t+f q*(stpL (za7 A.arcs q) l).length<=2048^(n+1):=by intro t;have h1:=z12 hf0 (l:=l) hf q t;have h2:f q*(stpL (za7 A.arcs q) l).length<=2048^n*(za7 A.arcs q).length:=ymf (hf q) (zpt _ _);have h3:2048^n*ltA A.arcs (q+1)<=2048^n*2048:=ynu _ (ym6 (zxk _ _) hA.al);rw[zxl hf0,yn6]at h3;rw[ymm];omega
  have hLm:∀ x∈stpL (za7 A.arcs q) l,0<=x.t/\x.t<(N:Int):=fun x hx=>hA.t x (yn3.1 (zhl hx).1).1;have hLl:(stpL (za7 A.arcs q) l).length<=2048:=ym6 (zpt _ _) (ym6 (ynk _ _) hA.al);have hc:f q<=2048^(n+1):=ym6 (hf q) (yn4 (by omega) (by omega));generalize stpL (za7 A.arcs q) l=L at *
  generalize rwN A l f q=e0 at *
  simp[g.pm,n3S,mkSt,hlt];refine⟨by rw[zeb];omega,zae hrow ?_⟩;rw[g1];simp[pth];refine zab hst ?_;simp;refine yc9 (A:=A) (U:=U) (W:=W) (N:=N) (wi:=wi) (q:=q) (l:=l) (f:=f) (c:=f q) (L:=L) (e0:=e0) (n:=n+1) hN hLm hLl (by omega) hb hc (Weak.to [4,6,11,12,14,59,60,61,70,71,72,81,82,83] [((4,0),4),((6,0),6),((14,0),14),((80,0),80),((81,0),81)] (by simp[n2S,mkSt,zR3,pth])) ?_;simp[n2S,mkSt,e1];exact hend _ (Weak.to [4,6,11,12,59,60,61,70,71,72] [((4,0),4),((6,0),6),((80,0),80),((81,0),81)] (by simp[n3S,mkSt,zR3]))
 ·have:q=N:=by omega
  subst this;simp[g.pm,n3S,mkSt];refine hx' _ _ ?_;simpa[n3S,mkSt]using hx
end Go.Ab
