/- Lemmas for the law AmbiguityOfDeterministic, part 33. No conditions. -/
import Derived.Test.YtcemegnnejaahaaGreatDoorAP32
set_option maxRecDepth 100000
set_option maxHeartbeats 4000000
set_option linter.all false
namespace Go.Ab
open Enc (enc)
attribute [local simp] zaj Opd.slots
def nodF(N:Nat):PV:=.fn F.bw [.ref (.int .i64 N)]
structure Vin (size d:Nat) (v:Sv):Prop where
 sl:v.x.s.length=size
 us:us v.x.s+v.x.f.length<=size
 d:v.d=d
theorem ztw{size d:Nat}{v:Sv}(goal:Nat->Bool)(n:Nat)(h:Vin size d v):Vin size d (v.vis goal n):=by
 refine⟨?_,?_,by rw[zwh];exact h.d⟩
 ·rw[zps,z0k];exact h.sl
 ·rw[zps,z93];exact h.us
theorem zlt{size d:Nat}(goal:Nat->Bool):∀ (l:List Nat) {v:Sv},Vin size d v->Vin size d (v.vs goal l)
 | [],_,h=>h
 | n::l,_,h=>zlt goal l (ztw goal n h)
theorem z94(d:Nat):(visO d true)[d]?=some (some ⟨1,[visV]⟩):=by unfold visO;rw[yoa (by simp)];simp
def z9n(d N a k:Nat):List AV:=[.ptr 900006 d 0 0,.cp (nodF N) 1 0,.cp (.int .i64 (a:Nat)) 1 0,.cp (.int .i64 (k:Nat)) 1 0]
theorem vtr3{N:Nat}(hN:N<=64){U:List Bool}(hU:U.length=N){gl:PV}{goal:Nat->Bool}(hg:∀ n,n<2*N*N->FnSp gl [.int .i64 (n:Nat)] (.bool (goal n))){d a k:Nat}(ha:a<N)(hk:k<2*N*N) :
  Vtr (2*N*N) gl true F.ln (z9n d N a k) (Vin (2*N*N) d) (fun v b=>v.vis goal (nod N a b (k % 2 == 1))) U where
 ok:=rfl
 nu:=rfl
 nx v x h _ _:=ztw goal _ h
 sp v b h hb _:=by
  have hsz:2*N*N<=2*64*64:=ymf (ynu 2 hN) hN;have hbN:b<N:=by omega
  have hnd:=z28 (d:=k % 2 == 1) hN ha hbN;have hlt:=z29 (d:=k % 2 == 1) ha hbN;have hvs:=zls hg h.sl (by have:=h.us;omega) hlt true;have hvd:=h.d;subst hvd;have hv:=z94 v.d;have t1:(k:Int).tmod 2=((k % 2:Nat):Int):=by simp[Int.tmod_eq_emod]
  refine HSp.of_mr c.ln (by simp[z9n]) (zf8 _ _ _ _) rfl ?_ fun A0 hA0=>MR.of_vm ?_
  ·show(true&&hpOk ks7 (hpZ (2*N*N) gl _ true))=true;rw[zbq];rfl
  have td:decide ((k:Int).tmod 2=1)=(k % 2 == 1):=by rw[t1,yoh,decide_eq_true_eq,beq_iff_eq];omega
  simp[g.ln,zbb,z9n,hpZ,hv,nodF,td];refine zab hnd ?_;simp[visV];refine zcs hvs (by simp[visC,zcf]) ?_ rfl ?_ ?_
  ·simp[zbk,St.site,look,hpZ]
  ·have h1:=zbq (2*N*N) gl v true;have h2:=zbq (2*N*N) gl (v.vis goal (nod N a b (k % 2 == 1))) true;show(zax ks7 _&&hpOk ks7 (hpZ (2*N*N) gl v true)&&zen ks7 (.av (.tup []))&&hpOk ks7 (hpZ (2*N*N) gl (v.vis goal (nod N a b (k % 2 == 1))) true))=true;rw[h1,h2];rfl
  simp[visC];refine⟨.inr rfl,_,Weak.refl _,[],rfl,rfl,?_⟩;simp[zbk,St.site,look,hpZ,zcx]
def z9o(A:GAuto)(U:List Bool)(d N:Nat)(l:Int)(k:Nat):List AV:=[.cp (enc (pth A U)) 9 0,.cp (.int .i64 (k:Nat)) 1 0,.cp (.int .i64 (N:Nat)) 1 0,.cp (.int .i64 l) 1 0,.ptr 900006 d 0 0,.cp (nodF N) 1 0]
theorem vtr2{A:GAuto}{N:Nat}(hA:CtrOk A N){U:List Bool}(hU:U.length=N){gl:PV}{goal:Nat->Bool}(hg:∀ n,n<2*N*N->FnSp gl [.int .i64 (n:Nat)] (.bool (goal n))){d k:Nat}(hk:k<2*N*N)(l:Int) :
  Vtr (2*N*N) gl true F.lm (z9o A U d N l k) (Vin (2*N*N) d) (fun v a=>(tgS A U (k / 2 % N) l).foldl (fun v b=>v.vis goal (nod N a b (k % 2 == 1))) v) U where
 ok:=rfl
 nu:=rfl
 nx v a h ha _:=by have:=zlt goal ((tgS A U (k / 2 % N) l).map fun b=>nod N a b (k % 2 == 1)) h;unfold Sv.vs at this;rw[List.foldl_map]at this;exact this
 sp v a h ha _:=by
  have hN:=hA.N1;have h0:0<N:=by omega
  have haN:a<N:=by omega
  have hqN:k / 2 % N<N:=ynn _ h0;have hto:=zru hA hU (vtr3 hN hU hg haN hk (d:=d)) hqN l h;have hvd:=h.d;have hk2:k<=8192:=by have:2*N*N<=2*64*64:=ymf (ynu 2 hN) hN;omega
  have e1:IntKind.i64.wrap ((k:Int) / 2)=((k / 2:Nat):Int):=by rw[i64w (by omega) (by omega)];simp
  have e3:((k / 2:Nat):Int).tmod N=((k / 2 % N:Nat):Int):=by rw[yq5 (by omega),<- Int.natCast_emod]
  generalize k / 2 % N=B at *
  generalize k / 2=K2 at *
  have hN0:¬ N=0:=by omega
  generalize hv2:(tgS A U B l).foldl (fun v b=>v.vis goal (nod N a b (k % 2 == 1))) v=v2 at *
  refine HSp.of_mr c.lm (by simp[z9o]) (zf8 _ _ _ _) rfl ?_ fun A0 hA0=>?_
  ·show(true&&hpOk ks7 (hpZ (2*N*N) gl _ true))=true;rw[zbq];rfl
  unfold g.lm;refine MR.gseq ?_;simp[zbb,z9o,hpZ];have hf2:=zh5 v.m v.x.f;have hf3:=zgk v.d true;have hf4:=zh6 v.m v.x.f
  refine MR.weak (st1:=⟨[(1,.cp (enc (pth A U)) 9 0),(2,.cp (.int .i64 (k:Nat)) 1 0),(3,.cp (.int .i64 (N:Nat)) 1 0),(4,.cp (.int .i64 l) 1 0),(5,.ptr 900006 d 0 0),(6,.cp (nodF N) 1 0),(7,.cp (.int .i64 a) 1 0)],hpZ (2*N*N) gl v true++[(DEAD,[none])]⟩)
   ((Weak.freeze (t:=7) rfl).trans ((Weak.openRef (t:=7) rfl rfl).trans (Weak.toF [1,2,3,4,5,6,7] ks7 [] ?_))) ?_
  ·simp[hpZ,killAll,zbe];exact⟨hf4,fun x hx=>ymn.1 hf2 x hx,fun x hx=>ymn.1 hf3 x hx⟩
  refine MR.of_vm ?_;simp[hpZ,pth,e1,e3,hN0];refine zcs hto (by simp[z9n,zcf]) ?_ rfl ?_ ?_
  ·simp[zbk,St.site,look,hpZ]
  ·have h1:=zbq (2*N*N) gl v true;have h2:=zbq (2*N*N) gl v2 true;show(zax ks7 _&&hpOk ks7 (hpZ (2*N*N) gl v true)&&zen ks7 (.av (.tup []))&&hpOk ks7 (hpZ (2*N*N) gl v2 true))=true;rw[h1,h2];rfl
  simp;refine⟨.inr rfl,_,Weak.refl _,[],rfl,rfl,?_⟩;simp[zbk,St.site,look,hpZ,zcx]
def tgT(A:GAuto)(U:List Bool)(q l:Nat):List Nat:=tgS A U q (l:Int)
theorem z8s(goal:Nat->Bool)(T:Nat->Nat->List Nat)(N k l:Nat)(v:Sv):(T (k / 2 / N) l).foldl (fun v a=>(T (k / 2 % N) l).foldl (fun v b=>v.vis goal (nod N a b (k % 2 == 1))) v) v=v.vs goal (nx2 T N k l):=by
 unfold nx2 Sv.vs;rw[List.foldl_flatMap]
 congr 1
 funext v a;rw[List.foldl_map]
def Sv.up(v:Sv):Sv:=⟨v.x,v.m,v.d+1⟩
theorem zpj{size:Nat}{gl:PV}{v:Sv}{sl:List (Nat × AV)}{r:List Site}:zbk ((⟨sl,hpZ size gl v true++r⟩:St).kill 900006 v.d) (hpZ size gl v.up false) (hpZ size gl v.up false):=by
 have h:(visO v.d true).set v.d none=visO (v.d+1) false:=by unfold visO;rw[yq7 _ _ (by simp)];simp[ypq]
 simp[zbk,St.kill,St.site,look,hpZ,Sv.up,zbe,h]
theorem zv3(d:Nat):(visO d false).length=d:=by simp[visO]
theorem z4q{σ : Sg}(h:∀ g,σ 900003 g=(900003,g))(m:Nat)(f:List Nat):sub σ (fnd m f)=fnd m f:=by cases f<;>simp[fnd,sub,h]
theorem z4o(σ : Sg)(m:Nat)(f:List Nat):(fob m f).map (Option.map (subO σ))=fob m f:=by
 cases f with
 | nil=>simp[fob]
 | cons n l =>
  have e:=zia σ (natI (n::l));simp only[fob,ynm,List.map_replicate,Option.map_none,ymi,yq3,ypg,subO,e]
theorem zv2{σ : Sg}(d:Nat):(visO d false).map (Option.map (subO σ))=visO d false:=by simp[visO]
theorem zv4(d:Nat):visO d false++[some ⟨1,[.fn F.bz visC]⟩]=visO d true:=by simp[visO,visV]
theorem zv5{σ : Sg}(s1 : σ 900000 0=(900000,0))(s2 : σ 900002 0=(900002,0))(s3 : σ 900004 0=(900004,0))(s4 : σ 900005 0=(900005,0)):subL σ visC=visC:=by simp[visC,subL,sub,s1,s2,s3,s4]
theorem z3e{A:GAuto}{N:Nat}(hA:CtrOk A N){U:List Bool}(hU:U.length=N){gl:PV}{goal:Nat->Bool}(hg:∀ n,n<2*N*N->FnSp gl [.int .i64 (n:Nat)] (.bool (goal n))){k:Nat}(hk:k<2*N*N)(l:Nat){v:Sv}(h:Vin (2*N*N) v.d v) :
  HSp P F.ip [.p (.int .i64 k),.p (.int .i64 l),visV,.p (.ref (enc (pth A U))),.p (.ref (.int .i64 N)),.p (.ref (nodF N))] (hpZ (2*N*N) gl v false) (.tup []) (hpZ (2*N*N) gl (v.vs goal (nx2 (tgT A U) N k l)).up false):=by
 have hN:=hA.N1;have h0:0<N:=by
  rcases ynx N with h|h
  ·subst h;simp at hk
  ·exact h
 have haN:k / 2 / N<N:=by rw[yof];refine Nat.div_lt_of_lt_mul ?_;rw[ymq];rw[ymq]at hk;exact hk
 have hto:=zru hA hU (vtr2 hA hU hg hk (l:Int) (d:=v.d)) haN (l:Int) h;have hfo:=z8s goal (tgT A U) N k l v;have hd2:=zt6 goal (nx2 (tgT A U) N k l) v;rw[<- hfo]at hd2 ⊢
 change HSp P F.ax _ _ _ (hpZ (2*N*N) gl ((tgT A U (k / 2 / N) l).foldl (fun v a=>(tgT A U (k / 2 % N) l).foldl (fun v b=>v.vis goal (nod N a b (k % 2 == 1))) v) v) true)at hto
 clear hfo;generalize (tgT A U (k / 2 / N) l).foldl (fun v a=>(tgT A U (k / 2 % N) l).foldl (fun v b=>v.vis goal (nod N a b (k % 2 == 1))) v) v=v2 at *
 have hk2:k<=8192:=by have:2*N*N<=2*64*64:=ymf (ynu 2 hN) hN;omega
 have e1:IntKind.i64.wrap ((k:Int) / 2)=((k / 2:Nat):Int):=by rw[i64w (by omega) (by omega)];simp
 have q:∀ A:Nat,A<N->IntKind.i64.wrap (A:Int)=(A:Int):=fun A h=>i64w (by omega) (by omega);have e2:IntKind.i64.wrap (((k / 2:Nat):Int) / (N:Int))=((k / 2 / N:Nat):Int):=by rw[<- Int.natCast_ediv];exact q _ haN
 generalize k / 2 / N=B at *
 generalize k / 2=K2 at *
 have hN0:¬ N=0:=by omega
 have hf2:=zh5 v.m v.x.f;have hf4:=zh6 v.m v.x.f;refine HSp.of_mr c.ip (by simp) (zf8 _ _ _ _) rfl ?_ fun A0 hA0=>?_
 ·show(true&&hpOk ks7 (hpZ (2*N*N) gl _ false))=true;rw[zbq];rfl
 unfold g.ip;refine MR.gseq ?_;simp[zbb,hpZ,visV]
 refine MR.weak (st1:=⟨[(3,.cp (enc (pth A U)) 9 0),(4,.cp (.int .i64 (N:Nat)) 1 0),(5,.cp (nodF N) 1 0),(6,.cp (.int .i64 k) 1 0),(7,.cp (.int .i64 l) 1 0),(8,.ptr 900006 v.d 0 0)],hpZ (2*N*N) gl v true++[(DEAD,[none])]⟩)
  ((Weak.freeze (t:=6) rfl).trans ((Weak.freeze (t:=7) rfl).trans ((Weak.openRef (t:=3) rfl rfl).trans ((Weak.openRef (t:=4) rfl rfl).trans ((Weak.openRef (t:=5) rfl rfl).trans ((Weak.openRef (t:=6) rfl rfl).trans ((Weak.openRef (t:=7) rfl rfl).trans
   (zjv [3,4,5,6,7,8] [(900000,[(900000,0)]),(900001,[(900001,0)]),(900002,[(900002,0)]),(900003,[(900003,0)]),(900004,[(900004,0)]),(900005,[(900005,0)]),(900006,[(900006,0),(8,0)])] ?_
    (fun σ => σ 900000 0=(900000,0) /\ σ 900001 0=(900001,0) /\ σ 900002 0=(900002,0) /\ σ 8 0=(900006,v.d) /\ σ 900004 0=(900004,0) /\ σ 900005 0=(900005,0)/\∀ g,σ 900003 g=(900003,g)) ?_ ?_)))))))) ?_
 ·simp[zh3,zuq,zfl,PINB,DEAD,zes,St.put,killAll,St.kill,zbe]
 ·simp[sgP,zhw,zej,St.site,look,St.put,killAll,St.kill,zbe,zv3]
 ·rintro σ ⟨s1,s2,s3,s4,s5,s6,s7⟩;have e:=zia σ v.x.s;simp[hpP,catS,sub,subO,subL,St.get,look,St.site,hpZ,St.put,killAll,St.kill,zbe,nodF,s2,s4,e,z4q s7,z4o,zv2,zv5 s1 s3 s5 s6,zv4]
 refine MR.of_vm ?_;simp[hpZ,pth,e1,e2,hN0];refine zcs hto (by simp[z9o,zcf]) ?_ rfl ?_ ?_
 ·simp[zbk,St.site,look,hpZ]
 ·have h1:=zbq (2*N*N) gl v true;have h2:=zbq (2*N*N) gl v2 true;show(zax ks7 _&&hpOk ks7 (hpZ (2*N*N) gl v true)&&zen ks7 (.av (.tup []))&&hpOk ks7 (hpZ (2*N*N) gl v2 true))=true;rw[h1,h2];rfl
 simp;refine⟨.inr rfl,_,Weak.kill _ 900006 v2.d,[],rfl,rfl,?_⟩;exact zpj
instance:Enc Grp:=⟨fun g=>.agg [.sl (ens g.1),.sl (ens (natI g.2))],2,by decide,fun _=>rfl⟩
@[simp] theorem yk2(g:Grp):enc g=.agg [.sl (ens g.1),.sl (ens (natI g.2))]:=rfl
@[simp] theorem yg9:Enc.sz Grp=2:=rfl
structure NxG (size sy:Nat) (gl:PV) (goal:Nat->Bool) (nxt:Nat->Nat->List Nat) (fN:FuncId) (cN:List PV):Prop where
 sz:size<=100000
 sy6:sy<=64
 gg:∀ n,n<size->FnSp gl [.int .i64 (n:Nat)] (.bool (goal n))
 gs:gl.sz=1
 nx:∀ (v:Sv) (k l:Nat),Vin size v.d v->k<size->1<=l->l<=sy->HSp P fN ([.p (.int .i64 k),.p (.int .i64 l),visV]++cN.map .p) (hpZ size gl v false) (.tup []) (hpZ size gl (v.vs goal (nxt k l)).up false)
 lt:∀ k l,∀ m∈nxt k l,m<size
def vNx(goal:Nat->Bool)(nxt:Nat->Nat->List Nat)(l:Nat)(v:Sv)(g:List Nat):Sv:=g.foldl (fun v n=>(v.vs goal (nxt n l)).up) v
theorem yfe(goal:Nat->Bool)(nxt:Nat->Nat->List Nat)(l:Nat):∀ (g:List Nat) (v:Sv),(vNx goal nxt l v g).x=Sx.nx goal nxt l v.x g
 | [],_=>rfl
 | n::g,v=>by have:=yfe goal nxt l g (v.vs goal (nxt n l)).up;rw[show(v.vs goal (nxt n l)).up.x=v.x.vs goal (nxt n l) from zt5 goal _ v]at this;exact this
theorem yfd{size d:Nat}{v:Sv}(h:Vin size d v):Vin size (d+1) v.up:=⟨h.sl,h.us,by show v.d+1=d+1;rw[h.d]⟩
theorem zty{size:Nat}(goal:Nat->Bool)(nxt:Nat->Nat->List Nat)(l:Nat):∀ (g:List Nat) (v:Sv),Vin size v.d v->Vin size (vNx goal nxt l v g).d (vNx goal nxt l v g)
 | [],_,h=>h
 | n::g,v,h=>by have h1:=yfd (zlt goal (nxt n l) h);have h2:Vin size (v.vs goal (nxt n l)).up.d (v.vs goal (nxt n l)).up:=⟨h1.sl,h1.us,rfl⟩;exact zty goal nxt l g _ h2
theorem z54(goal:Nat->Bool)(nxt:Nat->Nat->List Nat)(l:Nat)(v:Sv){g:List Nat}{k:Nat}(h:k<g.length):vNx goal nxt l v (g.take (k+1))=((vNx goal nxt l v (g.take k)).vs goal (nxt g[k] l)).up:=by unfold vNx;rw[ymg h,yo1];rfl
theorem zsa(ks:List Nat):∀ l:List PV,zax ks (l.map .p)=true
 | []=>rfl
 | _::l=>by simp only[ymi,zax,zda,zsa ks l,yqk]
def qHp(q:List Grp)(G:Grp):List Site:=[(18,[some ⟨2,avs q⟩]),(20,[some ⟨2,[.p (enc G)]⟩]),(DEAD,[none])]
def x2S(sy size:Nat)(gl:PV)(fN:FuncId)(cN:List PV)(q:List Grp)(k:Nat)(G:Grp)(l:Nat)(v:Sv)(j:Nat):St :=
 ⟨[(0,.p (.int .i64 sy)),(3,.p (.fn fN cN)),(13,.ptr 900002 0 0 0),(14,.ptr 900004 0 0 0),(15,visV),(18,.own 18 0 0 q.length),(19,.p (.int .i64 k)),(20,.ptr 20 0 0 0),(21,.p (.int .i64 l)),(58,.p (.sl (ens (natI G.2)))),(59,.p (.int .i64 G.2.length)),(60,.p (.int .i64 j))],
  hpZ size gl v false++qHp q G⟩
theorem zxc(l:List Nat){k:Nat}(h:k<l.length):(natI l)[k]'(by simpa[natI]using h)=((l[k]:Nat):Int):=by simp[natI]
theorem zee(l:List Nat):(natI l).length=l.length:=by simp[natI]
theorem ya7{size sy:Nat}{gl:PV}{goal:Nat->Bool}{nxt:Nat->Nat->List Nat}{fN:FuncId}{cN:List PV}(H:NxG size sy gl goal nxt fN cN){q:List Grp}{k:Nat}{G:Grp}(hgl:∀ n∈G.2,n<size)(hg2:G.2.length<=100000){l:Nat}(h1:1<=l)(h2:l<=sy){v:Sv}(hv:Vin size v.d v)
  {Q:Exit->St->Prop} {ks:List Kt} {st:St} (hw:Weak st (x2S sy size gl fN cN q k G l v 0)) (hx:zb8 P 88 Q (zay 6 ks) 6 (x2S sy size gl fN cN q k G l (vNx goal nxt l v G.2) G.2.length)):vL P 88 Q g.qe ks st:=by
 refine zag (S:=fun j:Nat=>x2S sy size gl fN cN q k G l (vNx goal nxt l v (G.2.take j)) j) (I:=fun j=>j<=G.2.length) (m:=fun j=>G.2.length - j) 0 (by simpa[vNx]using hw) (Nat.zero_le _) ?_;intro j hj R hn hr hx';have e1:=i64s j;by_cases hlt:j<G.2.length
 ·have hs:=z54 goal nxt l v hlt;have hgj:=zxc G.2 hlt;have hji:j<(natI G.2).length:=by rw[zee];exact hlt
  have hnl:=hgl _ (ym7 hlt);have hvj:=zty goal nxt l (G.2.take j) v hv;have hnx:=H.nx _ G.2[j] l hvj hnl h1 h2;have hend:∀ st',Weak st' (x2S sy size gl fN cN q k G l (vNx goal nxt l v (G.2.take (j+1))) (j+1))->R .normal st':=fun st' hh=>hn (j+1) st' hh (by omega) (by omega);rw[hs]at hend;generalize vNx goal nxt l v (G.2.take j)=v1 at *
  have hf2:=fun v:Sv=>zh5 v.m v.x.f;have hf3:=fun v:Sv=>zgk v.d false;have hf4:=fun v:Sv=>zh6 v.m v.x.f;simp[g.qe,x2S,hpZ,qHp,hlt,zee];refine zae hji ?_;rw[hgj];refine zcs hnx (by simp[visV,zcf]) ?_ rfl ?_ ?_
  ·simp[zbk,St.site,look,hpZ]
  ·have q1:=zbq size gl v1 false;have q2:=zbq size gl (v1.vs goal (nxt G.2[j] l)).up false;show(zax ks7 _&&hpOk ks7 (hpZ size gl v1 false)&&zen ks7 (.av (.tup []))&&hpOk ks7 (hpZ size gl (v1.vs goal (nxt G.2[j] l)).up false))=true;rw[q1,q2];simp only[zax,zsa];rfl
  simp[zcx,e1];refine hend _ (Weak.toF [0,3,13,14,15,18,19,20,21,58,59,60] ks7 [((18,0),18),((20,0),20)] ?_);simp[x2S,hpZ,qHp,visV,visC];exact⟨hf4 _,fun x hx=>ymn.1 (hf2 _) x hx,fun x hx=>ymn.1 (hf3 _) x hx⟩
 ·have:j=G.2.length:=by omega
  subst this;rw[yml]at *
  simp[g.qe,x2S,hpZ,qHp];refine hx' _ _ ?_;simpa[x2S,hpZ,qHp]using hx
def resS:Option (List Int)->PV
 | some w=>.tup [.sl (ens w),.bool true]
 | none=>.tup [.sl [],.bool false]
def hpL(size:Nat)(gl:PV)(s:List Bool)(m d:Nat):List Site:=[(900000,[some ⟨1,[.own 900001 0 0 size]⟩]),(900001,[some ⟨1,avs s⟩]),(900002,[some ⟨1,[.p .any]⟩]),(900003,List.replicate m none),(900004,[some ⟨1,[.p (.bool false)]⟩]),(900005,[some ⟨1,[.p gl]⟩]),(900006,List.replicate d none)]
structure Xs where
 q:List Grp
 s:List Bool
 m:Nat
 d:Nat
 l:Nat
def x3S(sy size:Nat)(gl:PV)(fN:FuncId)(cN:List PV)(k:Nat)(G:Grp)(x:Xs):St :=
 ⟨[(0,.p (.int .i64 sy)),(3,.p (.fn fN cN)),(13,.ptr 900002 0 0 0),(14,.ptr 900004 0 0 0),(15,visV),(18,.own 18 0 0 x.q.length),(19,.p (.int .i64 k)),(20,.ptr 20 0 0 0),(21,.p (.int .i64 x.l))],
  hpL size gl x.s x.m x.d++qHp x.q G⟩
def sxK(goal:Nat->Bool)(nxt:Nat->Nat->List Nat)(sy n:Nat):Option (List Int) × List Grp × List Bool->Option (List Int)
 | (some v,_,_)=>some v
 | (none,q,s)=>sxQ goal nxt sy n q s
structure Xok (size:Nat) (x:Xs):Prop where
 sl:x.s.length=size
 q:∀ X∈x.q,(∀ n∈X.2,n<size)/\X.1.length<x.q.length/\X.2.length<=size
 us:x.q.length+us x.s<=size+1
theorem zzg(sy:Nat):labs sy=List.range' 1 sy:=by unfold labs;rw[List.range'_eq_map_range];exact ync fun a _=>Nat.add_comm _ _
theorem ya6{size sy:Nat}{gl:PV}{goal:Nat->Bool}{nxt:Nat->Nat->List Nat}{fN:FuncId}{cN:List PV}(H:NxG size sy gl goal nxt fN cN){k:Nat}{G:Grp}(hG:(∀ n∈G.2,n<size)/\G.2.length<=size){n:Nat}{r0:Option (List Int)}{x0:Xs}(h0:Xok size x0)(hl0:x0.l=1)(hw0:G.1.length<x0.q.length)(hk0:k<x0.q.length)
  (hc0:sxK goal nxt sy n (ze6 goal nxt G.1 G.2 (List.range' x0.l (sy+1 - x0.l)) (x0.q.drop (k+1)) x0.s)=r0) {Q:Exit->St->Prop} (hQ:∀ s,retP [(10,none),(11,none)] (.pure (resS r0)) .ret s->Q .ret s) {ks:List Kt} {st:St} (hw:Weak st (x3S sy size gl fN cN k G x0))
  (hx:∀ x:Xs,Xok size x->k<x.q.length->us x.s+x.q.length<=us x0.s+x0.q.length->sxQ goal nxt sy n (x.q.drop (k+1)) x.s=r0->zb8 P 88 Q (zay 4 ks) 4 (x3S sy size gl fN cN k G x)):vL P 88 Q g.qf ks st:=by
 have hsz:=H.sz;have hsy:=H.sy6;refine zag (S:=fun x=>x3S sy size gl fN cN k G x) (I:=fun x=>Xok size x/\1<=x.l/\x.l<=sy+1/\G.1.length<x.q.length/\k<x.q.length/\sxK goal nxt sy n (ze6 goal nxt G.1 G.2 (List.range' x.l (sy+1 - x.l)) (x.q.drop (k+1)) x.s)=r0/\us x.s+x.q.length<=us x0.s+x0.q.length) (m:=fun x=>sy+1 - x.l) x0 hw ⟨h0,by omega,by omega,hw0,hk0,hc0,ym9 _⟩ ?_;rintro⟨q,s,m,d,l⟩ ⟨ho,hl1,hl2,hw1,hk1,hc,hu0⟩ R hn hr hx';simp only at hl1 hl2 hw1 hk1 hc hu0;obtain⟨o1,o2,o3⟩:=ho;simp only at o1 o2 o3;have e1:=i64s l;by_cases hlt:l<=sy
 ·have hrg:List.range' l (sy+1 - l)=l::List.range' (l+1) (sy+1 - (l+1)):=by rw[show sy+1 - l=(sy+1 - (l+1))+1 by omega,ypi]
  rw[hrg]at hc;have hv0:Vin size d ⟨⟨s,[],false⟩,m,d⟩:=⟨o1,by simp only[yo4,ymx];have:=z56 s;omega,rfl⟩;simp[g.qf,x3S,hpL,qHp,hlt];refine ya7 H (v:=⟨⟨s,[],false⟩,m,d⟩) (q:=q) (k:=k) (G:=G) hG.1 (by omega) hl1 hlt hv0 (Weak.toF [0,3,13,14,15,18,19,20,21,58,59,60] ks7 [((18,0),18),((20,0),20)] ?_) ?_
  ·simp[x2S,hpZ,qHp,visV,visC,fnd,fob,visO,zee,zda]
  have hvx:=yfe goal nxt l G.2 ⟨⟨s,[],false⟩,m,d⟩;have hvin:=zty goal nxt l G.2 ⟨⟨s,[],false⟩,m,d⟩ hv0;simp only[ze6]at hc;have hus:=zyt (goal:=goal) (G.2.flatMap fun n=>nxt n l) ⟨s,[],false⟩;have hrr:=vs_r (goal:=goal) (G.2.flatMap fun n=>nxt n l) ⟨s,[],false⟩ rfl;have hfl:=vs_f (goal:=goal) (G.2.flatMap fun n=>nxt n l) ⟨s,[],false⟩;rw[<- zy7 (goal:=goal) (nxt:=nxt) l G.2]at hus hfl hrr;simp only at hvx;rw[<- hvx]at hc hus hfl hrr;clear hvx;generalize vNx goal nxt l ⟨⟨s,[],false⟩,m,d⟩ G.2=v2 at *
  obtain⟨⟨s2,f2,r2⟩,m2,d2⟩:=v2;obtain⟨i1,i2,_⟩:=hvin;simp only[yo4,ymx]at hc hus hfl hrr i1 i2;have hf2:∀ n∈f2,n<size:=fun n hn=>by
   rcases hfl n hn with h|⟨h,_⟩
   ·cases h
   ·obtain⟨a,_,h⟩:=ymt.1 h;exact H.lt _ _ _ h
  clear hfl;cases f2 with
  | nil =>
   simp only[ym2]at hc;have hr2:r2=false:=hrr;subst hr2;simp[x2S,hpZ,qHp,fnd,fob,visO,e1];refine hn ⟨q,s2,m2,d2,l+1⟩ _ ((Weak.anyCells (s:=900002) (g:=0) (o:=⟨1,[.nil]⟩) [.p .any] rfl rfl (by simp) ⟨.inr ⟨rfl,rfl⟩,trivial⟩).trans (Weak.toF [0,3,13,14,15,18,19,20,21] ks7 [((18,0),18),((20,0),20)] ?_)) ⟨⟨i1,o2,by simp only[yo4,ymx]at hus;simp only;omega⟩,by simp only;omega,by simp only;omega,hw1,hk1,hc,by simp only[yo4,ymx]at hus;simp only;omega⟩ (by simp only;omega);simp[x3S,hpL,qHp,visV,visC,St.setObj]
  | cons a f =>
   simp only[reduceCtorEq,ymb]at hc;simp only[ymz]at hus i2;simp[x2S,hpZ,qHp,fnd,fob,visO];refine⟨fun h=>by omega,fun _=>⟨by omega,by omega,?_⟩⟩;have hwd:avs G.1++[.p (.int .i64 l)]=avs (G.1++[(l:Int)]):=by rw[zce];rfl
   have hwl:(G.1++[(l:Int)]).length=G.1.length+1:=by simp
   cases r2 with
   | true =>
    simp only[ym2,sxK]at hc;subst hc;simp;rw[hwd];refine hr _ (hQ _ ?_);generalize G.1++[(l:Int)]=W at *
    have htk:W.take (G.1.length+1)=W:=ymh (by omega);simp[resS,hwl,htk]
   | false =>
    simp only[yme,ymb]at hc;simp[e1];refine⟨by omega,?_⟩;rw[hwd];generalize hW:G.1++[(l:Int)]=W at *
    have htk:W.take (G.1.length+1)=W:=ymh (by omega);have hY:(natI (a::f)).length=f.length+1:=by simp[natI]
    have hY2:(natI (a::f)).take (f.length+1)=natI (a::f):=ymh (by omega);have hok:Xok size ⟨q++[(W,a::f)],s2,m2+1,d2,l+1⟩:=by
     refine⟨i1,fun X hX=>?_,by simp only[ymy,ynl];omega⟩;simp only[ymy,ynl];rcases ymc.1 hX with h|h
     ·obtain⟨u1,u2,u3⟩:=o2 X h;exact⟨u1,by omega,u3⟩
     ·rw[ymj]at h;subst h;exact⟨hf2,by simp only;omega,by simp only[ymz];omega⟩
    have hdr:(q++[(W,a::f)]).drop (k+1)=q.drop (k+1)++[(W,a::f)]:=yps (by omega)
    refine hn ⟨q++[(W,a::f)],s2,m2+1,d2,l+1⟩ _ ((Weak.freezeTo (s:=87) (g:=0) (n:=3) (o:=⟨2,avs q++[.agg [.own 79 0 0 (G.1.length+1),.own 900003 m2 0 (f.length+1)]]⟩) (ens (q++[(W,a::f)])) [(79,0),(900003,m2)] ?_ ?_ ?_ ?_).trans
     ((Weak.anyCells (s:=900002) (g:=0) (o:=⟨1,[.own 900003 m2 0 (f.length+1)]⟩) [.p .any] ?_ rfl (by simp) ⟨.inr ⟨rfl,rfl⟩,trivial⟩).trans (Weak.toF [0,3,13,14,15,18,19,20,21] ks7 [((87,0),18),((20,0),20)] ?_)))
     ⟨hok,by simp only;omega,by simp only;omega,by simp only[ymy,ynl];omega,by simp only[ymy,ynl];omega,by simp only;rw[hdr];exact hc,by simp only[ymy,ynl];omega⟩ (by simp only;omega)
    ·simp[St.obj,St.site,look]
    ·simp[St.obj,St.site,look,hwl,hY,htk,hY2];show _=(q++[(W,a::f)]).map enc;rw[ynm];rfl
    ·simp[St.obj,St.site,look]
    ·simp
    ·simp[St.obj,St.site,look,killAll,zbe,St.kill,St.setObj]
    ·simp[x3S,hpL,qHp,visV,visC,St.setObj,killAll,zbe];exact(ypq ..).symm
 ·have:l=sy+1:=by omega
  subst this;simp only[ypl,List.range'_zero,ze6,sxK]at hc;have hfl:¬ ((sy:Int)+1<=sy):=by omega
  simp[g.qf,x3S,hpL,qHp,hfl];refine hx' _ _ ?_;simpa[x3S,hpL,qHp]using hx ⟨q,s,m,d,sy+1⟩ ⟨o1,o2,o3⟩ hk1 hu0 hc
def x4S(sy size:Nat)(gl:PV)(fN:FuncId)(cN:List PV)(k:Nat)(x:Xs):St :=
 ⟨[(0,.p (.int .i64 sy)),(3,.p (.fn fN cN)),(13,.ptr 900002 0 0 0),(14,.ptr 900004 0 0 0),(15,visV),(18,.own 18 0 0 x.q.length),(19,.p (.int .i64 k))],
  hpL size gl x.s x.m x.d++[(18,[some ⟨2,avs x.q⟩]),(DEAD,[none])]⟩
theorem ya5{size sy:Nat}{gl:PV}{goal:Nat->Bool}{nxt:Nat->Nat->List Nat}{fN:FuncId}{cN:List PV}(H:NxG size sy gl goal nxt fN cN){n0:Nat}{r0:Option (List Int)}{x0:Xs}(h0:Xok size x0)(hn0:us x0.s+x0.q.length<n0)(hc0:sxQ goal nxt sy n0 x0.q x0.s=r0)
  {Q:Exit->St->Prop} (hQ:∀ s,retP [(10,none),(11,none)] (.pure (resS r0)) .ret s->Q .ret s) {ks:List Kt} {st:St} (hw:Weak st (x4S sy size gl fN cN 0 x0))
  (hx:r0=none->∀ (k:Nat) (x:Xs),zb8 P 88 Q (zay 2 ks) 2 (x4S sy size gl fN cN k x)):vL P 88 Q g.o7 ks st:=by
 have hsz:=H.sz;have hsy:=H.sy6;refine zag (S:=fun y:Nat × Xs=>x4S sy size gl fN cN y.1 y.2) (I:=fun y=>Xok size y.2/\y.1<=y.2.q.length/\∃ n,us y.2.s+(y.2.q.drop y.1).length<n/\sxQ goal nxt sy n (y.2.q.drop y.1) y.2.s=r0) (m:=fun y=>us y.2.s+(y.2.q.length - y.1)) (0,x0) hw ⟨h0,yn0 _,n0,hn0,hc0⟩ ?_;rintro⟨k,⟨q,s,m,d,l⟩⟩ ⟨ho,hk,n,hn,hc⟩ R hnx hr hx';simp only at hk hn hc;have o3:=ho.us;simp only at o3;have e1:=i64s k;by_cases hlt:k<q.length
 ·have hd:q.drop k=q[k]::q.drop (k+1):=ynt hlt;have hG:=ho.q _ (ym7 hlt);cases n with
  | zero=>omega
  | succ n =>
  rw[hd]at hc hn;simp only[sxQ]at hc;simp only[ymz]at hn;have hc2:sxK goal nxt sy n (ze6 goal nxt q[k].1 q[k].2 (List.range' 1 (sy+1 - 1)) (q.drop (k+1)) s)=r0:=by rw[zzg]at hc;rw[ypd];rw[<- hc];rcases ze6 goal nxt q[k].1 q[k].2 (List.range' 1 sy) (q.drop (k+1)) s with⟨_|v,q',s'⟩<;>rfl
  have hgq:q[k]?=some q[k]:=yma hlt;generalize q[k]'hlt=G at *
  have hG2:(∀ n∈G.2,n<size)/\G.2.length<=size:=⟨hG.1,hG.2.2⟩;have hG1:G.1.length<q.length:=hG.2.1;have ho2:Xok size ⟨q,s,m,d,1⟩:=⟨ho.sl,ho.q,ho.us⟩;simp[g.o7,x4S,hpL,hlt];refine zd1 hgq ?_;refine ya6 H hG2 (x0:=⟨q,s,m,d,1⟩) ho2 rfl hG1 hlt hc2 (fun s h=>hr s (hQ s h)) (Weak.toF [0,3,13,14,15,18,19,20,21] ks7 [((18,0),18),((20,0),20)] ?_) fun x hxo hxk hxu hxc=>?_
  ·simp[x3S,hpL,qHp,visV,visC]
  obtain⟨q2,s2,m2,d2,l2⟩:=x;simp only at hxk hxu hxc;simp[x3S,hpL,qHp,e1];refine hnx (k+1,⟨q2,s2,m2,d2,l2⟩) _ (Weak.toF [0,3,13,14,15,18,19] ks7 [((18,0),18)] ?_) ⟨hxo,by simp only;omega,n,?_,hxc⟩ (by simp only;omega)
  ·simp[x4S,hpL,visV,visC]
  ·simp only[yow]at hn ⊢;omega
 ·have:k=q.length:=by omega
  subst this;rw[List.drop_length]at hc;have hr0:r0=none:=by rw[<- hc];cases n<;>rfl
  simp[g.o7,x4S,hpL];refine hx' _ _ ?_;simpa[x4S,hpL]using hx hr0 q.length ⟨q,s,m,d,l⟩
def x1S(sy size:Nat)(gl:PV)(fN:FuncId)(cN:List PV)(beg:List Nat)(v:Sv)(j:Nat):St :=
 ⟨[(0,.p (.int .i64 sy)),(3,.p (.fn fN cN)),(13,.ptr 900002 0 0 0),(14,.ptr 900004 0 0 0),(15,visV),(28,.p (.sl (ens (natI beg)))),(29,.p (.int .i64 beg.length)),(30,.p (.int .i64 j))],hpZ size gl v false++[(DEAD,[none])]⟩
theorem ya8{size sy:Nat}{gl:PV}{goal:Nat->Bool}{nxt:Nat->Nat->List Nat}{fN:FuncId}{cN:List PV}(H:NxG size sy gl goal nxt fN cN){beg:List Nat}(hb:∀ n∈beg,n<size)(hbl:beg.length<=100000){v:Sv}(hv:Vin size v.d v){Q:Exit->St->Prop}{ks:List Kt}{st:St}
  (hw:Weak st (x1S sy size gl fN cN beg v 0)) (hx:zb8 P 88 Q (zay 0 ks) 0 (x1S sy size gl fN cN beg (v.vs goal beg) beg.length)):vL P 88 Q g.qd ks st:=by
 have hsz:=H.sz;refine zag (S:=fun j:Nat=>x1S sy size gl fN cN beg (v.vs goal (beg.take j)) j) (I:=fun j=>j<=beg.length) (m:=fun j=>beg.length - j) 0 (by simpa[Sv.vs]using hw) (Nat.zero_le _) ?_;intro j hj R hn hr hx';have e1:=i64s j;by_cases hlt:j<beg.length
 ·have hs:v.vs goal (beg.take (j+1))=(v.vs goal (beg.take j)).vis goal beg[j]:=by unfold Sv.vs;rw[ymg hlt,yo1];rfl
  have hgj:=zxc beg hlt;have hji:j<(natI beg).length:=by rw[zee];exact hlt
  have hnl:=hb _ (ym7 hlt);have hvj:=zlt goal (beg.take j) hv;have hus:=hvj.us;have hnx:=zls H.gg hvj.sl (by omega) hnl false;have hend:∀ st',Weak st' (x1S sy size gl fN cN beg (v.vs goal (beg.take (j+1))) (j+1))->R .normal st':=fun st' hh=>hn (j+1) st' hh (by omega) (by omega);rw[hs]at hend;generalize v.vs goal (beg.take j)=v1 at *
  have hf2:=fun v:Sv=>zh5 v.m v.x.f;have hf3:=fun v:Sv=>zgk v.d false;have hf4:=fun v:Sv=>zh6 v.m v.x.f;simp[g.qd,x1S,hpZ,hlt,zee];refine zae hji ?_;rw[hgj];generalize beg[j]'hlt=b at *
  simp[visV];refine zcs hnx (by simp[visC,zcf]) ?_ rfl ?_ ?_
  ·simp[zbk,St.site,look,hpZ]
  ·have q1:=zbq size gl v1 false;have q2:=zbq size gl (v1.vis goal b) false;show(zax ks7 _&&hpOk ks7 (hpZ size gl v1 false)&&zen ks7 (.av (.tup []))&&hpOk ks7 (hpZ size gl (v1.vis goal b) false))=true;rw[q1,q2];rfl
  simp[zcx,e1];refine hend _ (Weak.toF [0,3,13,14,15,28,29,30] ks7 [] ?_);simp[x1S,hpZ,visV,visC];exact⟨hf4 _,fun x hx=>ymn.1 (hf2 _) x hx,fun x hx=>ymn.1 (hf3 _) x hx⟩
 ·have:j=beg.length:=by omega
  subst this;rw[yml]at *
  simp[g.qd,x1S,hpZ];refine hx' _ _ ?_;simpa[x1S,hpZ]using hx
theorem zl6{size sy:Nat}{gl:PV}{goal:Nat->Bool}{nxt:Nat->Nat->List Nat}{fN:FuncId}{cN:List PV}(H:NxG size sy gl goal nxt fN cN){beg:List Nat}(hb:∀ n∈beg,n<size)(hbl:beg.length<=100000) :
  Sp P F.io [.int .i64 sy,.int .i64 size,.sl (ens (natI beg)),.fn fN cN,gl] (.pure (resS (sx goal nxt sy size beg))):=by
 have hsz:=H.sz;have hgs:=H.gs;have hv0:Vin size 0 ⟨⟨List.replicate size false,[],false⟩,0,0⟩:=⟨by simp,by have:=z56 (List.replicate size false);simp only[List.length_replicate]at this;simp only[yo4];omega,rfl⟩;refine Sp.of_mr c.io (by simp) ?_;unfold g.io;generalize hR:(fun(ex:Exit) (st:St) (_:Option FA)=>retP [(10,none),(11,none)] (RV.pure (resS (sx goal nxt sy size beg))) ex st)=R;refine MR.gseq ?_;simp;refine⟨hgs,?_⟩;refine MR.gseq ?_;simp;refine⟨by omega,?_⟩;refine MR.gseq ?_;simp;refine MR.gseq ?_;simp;refine MR.gseq ?_;simp;have hrp:(List.replicate size (AV.p (PV.bool false)))=avs (List.replicate size false):=by rw[zc8];rfl
 rw[hrp];generalize hs0:List.replicate size false=s0 at *
 refine MR.weak (st1:=⟨[(0,.p (.int .i64 sy)),(2,.p (.sl (ens (natI beg)))),(3,.p (.fn fN cN)),(13,.ptr 900002 0 0 0),(14,.ptr 900004 0 0 0),(15,visV)],hpZ size gl ⟨⟨s0,[],false⟩,0,0⟩ false++[(DEAD,[none])]⟩)
  (zjv [0,2,3,13,14,15] [(900000,[(12,0)]),(900001,[(26,0)]),(900002,[(13,0)]),(900003,[]),(900004,[(14,0)]),(900005,[(9,0)]),(900006,[])] ?_
   (fun σ => σ 12 0=(900000,0) /\ σ 26 0=(900001,0) /\ σ 13 0=(900002,0) /\ σ 14 0=(900004,0) /\ σ 9 0=(900005,0)) ?_ ?_) ?_
 ·simp[zh3,zuq,zfl,PINB,DEAD,zes]
 ·simp[sgP,zhw,zej,St.site,look]
 ·rintro σ ⟨s1,s2,s3,s4,s5⟩;have e:=zia σ s0;simp[hpP,catS,sub,subO,subL,St.get,look,St.site,hpZ,fnd,fob,visO,visV,visC,s1,s2,s3,s4,s5,e]
 refine MR.of_vm ?_;have hQ:∀ ex s,retP [(10,none),(11,none)] (RV.pure (resS (sx goal nxt sy size beg))) ex s->R ex s none:=fun ex s h=>by rw[<- hR];exact h
 clear hR;generalize hQe:(fun ex s=>R ex s none)=Q;have hQ:∀ ex s,retP [(10,none),(11,none)] (RV.pure (resS (sx goal nxt sy size beg))) ex s->Q ex s:=fun ex s h=>by rw[<- hQe];exact hQ ex s h
 clear hQe;simp[hpZ,zee];refine ya8 H hb hbl (v:=⟨⟨s0,[],false⟩,0,0⟩) hv0 (Weak.toF [0,3,13,14,15,28,29,30] ks7 [] ?_) ?_
 ·simp[x1S,hpZ,visV,visC,fnd,fob,visO,zee]
 have hvin:=zlt goal beg hv0;have hvx:=zt5 goal beg ⟨⟨s0,[],false⟩,0,0⟩;have hus:=zyt (goal:=goal) beg ⟨s0,[],false⟩;have hfl:=vs_f (goal:=goal) beg ⟨s0,[],false⟩;have hsx:sx goal nxt sy size beg=if (Sx.vs goal ⟨s0,[],false⟩ beg).r=true then some []else sxQ goal nxt sy (size+2) [([],(Sx.vs goal ⟨s0,[],false⟩ beg).f)] (Sx.vs goal ⟨s0,[],false⟩ beg).s:=by rw[<- hs0];rfl
 have hs0l:us s0<=size:=by rw[<- hs0];have:=z56 (List.replicate size false);simpa using this
 have hrr:=vs_r (goal:=goal) beg ⟨s0,[],false⟩ rfl;simp only at hvx;rw[<- hvx]at hus hfl hsx hrr;clear hvx;generalize Sv.vs goal ⟨⟨s0,[],false⟩,0,0⟩ beg=v at *
 obtain⟨⟨s,f,r⟩,m,d⟩:=v;obtain⟨i1,i2,_⟩:=hvin;simp only[yo4,ymx]at hus hfl hsx hrr i1 i2;have hf2:∀ n∈f,n<size:=fun n hn=>by
  rcases hfl n hn with h|⟨h,_⟩
  ·cases h
  ·exact hb n h
 clear hfl;rw[hsx]at hQ;simp[x1S,hpZ];cases r with
 | true =>
  simp only[ym2]at hQ;simp;refine hQ _ _ ?_;simp[resS,ens]
 | false =>
  simp only[yme,ymb]at hQ;have hend:∀ (x:Xs),Xok size x->us x.s+x.q.length<size+2->sxQ goal nxt sy (size+2) x.q x.s=sxQ goal nxt sy (size+2) [([],f)] s->∀ st,Weak st (x4S sy size gl fN cN 0 x)->vL P 88 Q g.o7 [.blk 2,.code (.seq (.reg [⟨some 10,.mv (.c .nil),none⟩,⟨some 11,.mv (.c (.p (.bool false))),none⟩] [[0,3,13,14,15,18,19]]) .ret)] st:=by intro x hx1 hx2 hx3 st hw;refine ya5 H hx1 hx2 hx3 (fun s h=>hQ _ s h) hw fun hn k x=>?_;rw[hn]at hQ;simp[x4S];refine hQ _ _ ?_;simp[resS,ens]
  have hxok:Xok size ⟨[([],f)],s,0,0,0⟩:=by refine⟨i1,fun X hX=>?_,by simp only[ynl];omega⟩;rw[ymj]at hX;subst hX;exact⟨hf2,by simp,by simp only;omega⟩
  cases f with
  | nil =>
   simp[fnd,fob,visO];refine hend ⟨[([],[])],s,m,d,0⟩ ⟨hxok.sl,hxok.q,hxok.us⟩ (by simp only[ynl];omega) rfl _ ((Weak.anyCells (s:=900002) (g:=0) (o:=⟨1,[.nil]⟩) [.p .any] rfl rfl (by simp) ⟨.inr ⟨rfl,rfl⟩,trivial⟩).trans (Weak.toF [0,3,13,14,15,18,19] ks7 [((41,0),18)] ?_));simp[x4S,hpL,visV,visC,St.setObj,natI]
  | cons a f =>
   simp[fnd,fob,visO];have hY:(natI (a::f)).length=f.length+1:=by simp[natI]
   have hY2:(natI (a::f)).take (f.length+1)=natI (a::f):=ymh (by omega)
   refine hend ⟨[([],a::f)],s,m+1,d,0⟩ ⟨hxok.sl,hxok.q,hxok.us⟩ (by simp only[ynl];omega) rfl _ ((Weak.freezeTo (s:=41) (g:=0) (n:=3) (o:=⟨2,[.agg [.p (.sl []),.own 900003 m 0 (f.length+1)]]⟩) (ens [(([]:List Int),a::f)]) [(900003,m)] ?_ ?_ ?_ ?_).trans
     ((Weak.anyCells (s:=900002) (g:=0) (o:=⟨1,[.own 900003 m 0 (f.length+1)]⟩) [.p .any] ?_ rfl (by simp) ⟨.inr ⟨rfl,rfl⟩,trivial⟩).trans (Weak.toF [0,3,13,14,15,18,19] ks7 [((41,0),18)] ?_)))
   ·simp[St.obj,St.site,look]
   ·simp[St.obj,St.site,look,hY,hY2]
   ·simp[St.obj,St.site,look]
   ·simp
   ·simp[St.obj,St.site,look,killAll,zbe,St.kill,St.setObj]
   ·simp[x4S,hpL,visV,visC,St.setObj,killAll,zbe];exact(ypq ..).symm
def usf(U:List Bool)(q:Nat):Bool:=U.getD q false
theorem zh2{A:GAuto}{N:Nat}(hA:CtrOk A N){U:List Bool}(hU:U.length=N):TOk2 (tgT A U) N (usf U):=⟨fun q l x hx=>by
 have:=z02 (L:=stpL (za7 A.arcs q) l) hU (fun x hx=>hA.t x (yn3.1 (zhl hx).1).1) x hx;rw[hU]at this;exact this⟩
theorem nxg2{A:GAuto}{N:Nat}(hA:CtrOk A N){U:List Bool}(hU:U.length=N){en:PV}{E:Nat->Bool}(he:∀ q,q<N->FnSp en [.int .i64 (q:Nat)] (.bool (E q))){sy:Nat}(hsy:sy<=64) :
  NxG (2*N*N) sy (.fn F.a8 [.ref en,.ref (.int .i64 N)]) (gl2 N E) (nx2 (tgT A U) N) F.ip [.ref (enc (pth A U)),.ref (.int .i64 N),.ref (nodF N)] where
 sz:=by have hN:=hA.N1;have:2*N*N<=2*64*64:=ymf (ynu 2 hN) hN;omega
 sy6:=hsy
 gg:=fun n hn=>zx5 hA.N1 he hn
 gs:=rfl
 nx:=fun v k l h hk _ _=>z3e hA hU (fun n hn=>zx5 hA.N1 he hn) hk l h
 lt:=fun k l=>zot (zh2 hA hU) k l
def bgR(N:Nat)(B:Nat->Bool)(a k:Nat):List Nat:=(List.range k).flatMap fun b=>if B a=true/\B b=true then[nod N a b false]else[]
def bgK(N:Nat)(B:Nat->Bool)(k:Nat):List Nat:=(List.range k).flatMap fun a=>bgR N B a N
theorem zvp(N:Nat)(B:Nat->Bool):bgK N B N=bg2 N B:=rfl
theorem zyo(N:Nat)(B:Nat->Bool)(a k:Nat):bgR N B a (k+1)=bgR N B a k++(if B a=true/\B k=true then[nod N a k false]else[]):=by unfold bgR;rw[yqy,yom];simp
theorem zyp(N:Nat)(B:Nat->Bool)(k:Nat):bgK N B (k+1)=bgK N B k++bgR N B k N:=by unfold bgK;rw[yqy,yom];simp
theorem z5q(N:Nat)(B:Nat->Bool)(a k:Nat):(bgR N B a k).length<=k:=by
 induction k with
 | zero=>simp[bgR]
 | succ k ih=>rw[zyo,ymy];split<;>simp<;>omega
theorem z5r(N:Nat)(B:Nat->Bool)(k:Nat):(bgK N B k).length<=k*N:=by
 induction k with
 | zero=>simp[bgK]
 | succ k ih=>rw[zyp,ymy,yo2];have:=z5q N B k N;omega
def nodA(N:Nat):AV:=.fn F.bw [.ptr 8 0 0 0]
def tHp(A:GAuto)(U:List Bool)(en:PV)(N:Nat)(L:List Nat):List Site:=[(3,[some ⟨9,[.p (enc (pth A U))]⟩]),(5,[some ⟨1,[.p en]⟩]),(8,[some ⟨1,[.p (.int .i64 N)]⟩]),(9,[some ⟨1,[nodA N]⟩]),(10,[some ⟨1,avs (natI L)⟩]),(DEAD,[none])]
def t1S(A:GAuto)(U:List Bool)(bn en:PV)(N a:Nat)(L:List Nat)(b:Nat):St :=
 ⟨[(1,.p bn),(3,.ptr 3 0 0 0),(5,.ptr 5 0 0 0),(8,.ptr 8 0 0 0),(9,.ptr 9 0 0 0),(10,.own 10 0 0 L.length),(11,.p (.int .i64 a)),(18,.p (.int .i64 N)),(19,.p (.int .i64 a)),(22,.p (.int .i64 N)),(23,.p (.int .i64 b))],tHp A U en N L⟩
def t2S(A:GAuto)(U:List Bool)(bn en:PV)(N:Nat)(L:List Nat)(a:Nat):St :=
 ⟨[(1,.p bn),(3,.ptr 3 0 0 0),(5,.ptr 5 0 0 0),(8,.ptr 8 0 0 0),(9,.ptr 9 0 0 0),(10,.own 10 0 0 L.length),(18,.p (.int .i64 N)),(19,.p (.int .i64 a))],tHp A U en N L⟩
theorem z3f(l:List Nat)(x:Nat):avs (natI l)++[.p (.int .i64 x)]=avs (natI (l++[x])):=by rw[show natI (l++[x])=natI l++[(x:Int)] by simp[natI],zce];rfl
theorem ybn{A:GAuto}{N:Nat}(hN:N<=64){U:List Bool}(hU:U.length=N){bn en:PV}{B:Nat->Bool}(hb:∀ q,q<N->FnSp bn [.int .i64 (q:Nat)] (.bool (B q))){a:Nat}(ha:a<N){L:List Nat}(hL:L.length<=5000)
  {Q:Exit->St->Prop} {ks:List Kt} {st:St} (hw:Weak st (t1S A U bn en N a L 0)) (hx:zb8 P 71 Q (zay 2 ks) 2 (t1S A U bn en N a (L++bgR N (fun s=>usf U s&&B s) a N) N)):vL P 71 Q g.p9 ks st:=by
 refine zag (S:=fun b:Nat=>t1S A U bn en N a (L++bgR N (fun s=>usf U s&&B s) a b) b) (I:=fun b=>b<=N) (m:=fun b=>N - b) 0 (by simpa[bgR]using hw) (Nat.zero_le _) ?_;intro b hbN R hn hr hx';have e1:=i64s b;by_cases hlt:b<N
 ·have hs:=zyo N (fun s=>usf U s&&B s) a b;have hlen:=z5q N (fun s=>usf U s&&B s) a b;have hend:∀ st',Weak st' (t1S A U bn en N a (L++bgR N (fun s=>usf U s&&B s) a (b+1)) (b+1))->R .normal st':=fun st' hh=>hn (b+1) st' hh (by omega) (by omega);rw[hs,<- List.append_assoc]at hend;have hL2:(L++bgR N (fun s=>usf U s&&B s) a b).length<=5064:=by rw[ymy];omega
  generalize L++bgR N (fun s=>usf U s&&B s) a b=M at *
  have haU:a<U.length:=by omega
  have hbU:b<U.length:=by omega
  have ga:usf U a=U[a]:=by unfold usf;rw[ym8,yma haU];rfl
  have gb:usf U b=U[b]:=by unfold usf;rw[ym8,yma hbU];rfl
  rw[ga,gb]at hend;have hnd:=z28 (d:=false) hN ha hlt;simp[-zc7,g.p9,t1S,tHp,hlt,pth];refine zae haU ?_;cases hua:U[a]with
  | false =>
   rw[hua]at hend;simp only[Bool.false_and,yme,false_and,ymb,yos]at hend;simp[e1];exact hend _ (Weak.to [1,3,5,8,9,10,11,18,19,22,23] [((3,0),3),((5,0),5),((8,0),8),((9,0),9),((10,0),10)] (by simp[t1S,tHp,pth,nodA]))
  | true =>
   rw[hua]at hend;simp only[ypb]at hend;simp[-zc7];refine zae hbU ?_;cases hub:U[b]with
   | false =>
    rw[hub]at hend;simp only[Bool.false_and,yme,and_false,ymb,yos]at hend;simp[e1];exact hend _ (Weak.to [1,3,5,8,9,10,11,18,19,22,23] [((3,0),3),((5,0),5),((8,0),8),((9,0),9),((10,0),10)] (by simp[t1S,tHp,pth,nodA]))
   | true =>
    rw[hub]at hend;simp only[ypb]at hend;simp[-zc7];refine zge (hb a ha) rfl fun c=>?_;cases hba:B a with
    | false =>
     rw[hba]at hend;simp only[yme,false_and,ymb,yos]at hend;simp[e1];exact hend _ (Weak.to [1,3,5,8,9,10,11,18,19,22,23] [((3,0),3),((5,0),5),((8,0),8),((9,0),9),((10,0),10)] (by simp[t1S,tHp,pth,nodA]))
    | true =>
     rw[hba]at hend;simp only[true_and]at hend;simp[-zc7];refine zge (hb b hlt) rfl fun c=>?_;cases hbb:B b with
     | false =>
      rw[hbb]at hend;simp only[yme,ymb,yos]at hend;simp[e1];exact hend _ (Weak.to [1,3,5,8,9,10,11,18,19,22,23] [((3,0),3),((5,0),5),((8,0),8),((9,0),9),((10,0),10)] (by simp[t1S,tHp,pth,nodA]))
     | true =>
      rw[hbb]at hend;simp only[ym2]at hend;simp[nodA];refine zaa hnd (by simp;rfl) ?_;simp[e1,zee,LIM];refine⟨by omega,?_⟩;rw[z3f];exact hend _ (Weak.to [1,3,5,8,9,10,11,18,19,22,23] [((3,0),3),((5,0),5),((8,0),8),((9,0),9),((54,0),10)] (by simp[t1S,tHp,pth,nodA]))
 ·have:b=N:=by omega
  subst this;simp[g.p9,t1S,tHp];refine hx' _ _ ?_;simpa[t1S,tHp]using hx
theorem zrv(n:Nat)(st:St)(s g:Nat):toPV st (n+1) (.ptr s g 0 0)=match st.obj s g with|some o=>(match o.es with|[e]=>(toPV st n e).map .ref|_=>none)|none=>none:=rfl
theorem zv8{A:GAuto}{N:Nat}(hA:CtrOk A N){U:List Bool}(hU:U.length=N){bn en:PV}{B E:Nat->Bool}(hb:∀ q,q<N->FnSp bn [.int .i64 (q:Nat)] (.bool (B q)))(he:∀ q,q<N->FnSp en [.int .i64 (q:Nat)] (.bool (E q)))(hes:en.sz=1){sy:Nat}(hsy:sy<=64)(hsyA:A.sy=(sy:Nat)) :
  Sp P F.ec [enc (pth A U),bn,en] (.pure (resS (tw2 (tgT A U) N (fun s=>usf U s&&B s) E sy))):=by
 have hN:=hA.N1;have hsl:=zl6 (nxg2 hA hU he hsy) (beg:=bg2 N fun s=>usf U s&&B s) znt (by
  rw[<- zvp];have:=z5r N (fun s=>usf U s&&B s) N;have h2:N*N<=64*64:=ymf hN hN;omega)
 have hst:A.st=(N:Int):=hA.inN.st;refine Sp.vz c.ec fun _=>?_;generalize hR:retP [(6,none),(7,none)] (.pure (resS (tw2 (tgT A U) N (fun s=>usf U s&&B s) E sy)))=R;have ev:(zat A).a=A:=rfl;simp[g.ec,pth,ev,hst];refine⟨hes,?_⟩;refine zag (S:=fun a:Nat=>t2S A U bn en N (bgK N (fun s=>usf U s&&B s) a) a) (I:=fun a=>a<=N) (m:=fun a=>N - a) 0 (Weak.nl 10 77 1 rfl (Weak.to [1,3,5,8,9,10,18,19] [((3,0),3),((5,0),5),((8,0),8),((9,0),9),((77,0),10)] ?_)) (yn0 _) ?_
 ·simp[t2S,tHp,pth,nodA,bgK,natI,ev,hst]
 intro a haN R2 hn hr hx';have e1:=i64s a;have hlen:=z5r N (fun s=>usf U s&&B s) a;have h64:a*N<=64*64:=ymf (by omega) hN;by_cases hlt:a<N
 ·have hend:∀ st',Weak st' (t2S A U bn en N (bgK N (fun s=>usf U s&&B s) (a+1)) (a+1))->R2 .normal st':=fun st' hh=>hn (a+1) st' hh (by omega) (by omega);rw[zyp]at hend;simp[g.rb,t2S,tHp,hlt];refine ybn (A:=A) (en:=en) hN hU hb hlt (L:=bgK N (fun s=>usf U s&&B s) a) (by omega) (Weak.to [1,3,5,8,9,10,11,18,19,22,23] [((3,0),3),((5,0),5),((8,0),8),((9,0),9),((10,0),10)] (by simp[t1S,tHp,nodA])) ?_;simp[t1S,tHp,e1];exact hend _ (Weak.to [1,3,5,8,9,10,18,19] [((3,0),3),((5,0),5),((8,0),8),((9,0),9),((10,0),10)] (by simp[t2S,tHp,nodA]))
 ·have:a=N:=by omega
  subst this;rw[zvp];rw[zvp]at hlen;have w1:IntKind.i64.wrap (2*(a:Int))=((2*a:Nat):Int):=by rw[i64w (by omega) (by omega)];simp
  have w2:IntKind.i64.wrap (2*(a:Int)*(a:Int))=((2*a*a:Nat):Int):=by have h3:2*a*a<=2*64*64:=ymf (ynu 2 hN) hN;rw[show 2*(a:Int)*(a:Int)=((2*a*a:Nat):Int) by simp];exact i64w (by omega) (by omega)
  simp[g.rb,t2S,tHp];refine hx' _ _ ?_;simp[pth,ev,hsyA,w1,w2];have hgl:(natI (bg2 a fun s=>usf U s&&B s)).length=(bg2 a fun s=>usf U s&&B s).length:=zee _;unfold tw2 at hR;generalize sx (gl2 a E) (nx2 (tgT A U) a) sy (2*a*a) (bg2 a fun s=>usf U s&&B s)=r0 at *
  generalize (bg2 a fun s=>usf U s&&B s)=L at *
  refine zaa hsl ?_ ?_
  ·have htk:(natI L).take L.length=natI L:=ymh (by omega);simp[nodA,hgl,zrv,St.obj,St.site,look,htk,pth,ev,hsyA,nodF]
  ·rw[<- hR];cases r0 with
   | none=>simp[resS,zbh,ens]
   | some w=>simp[resS,zbh]
end Go.Ab
namespace Go.Ab
def uL(U:Nat->Bool)(k:Nat):List Nat:=(List.range k).filter U
def sgU(U:Nat->Bool)(a:Nat):Nat:=(uL U a).length
section
variable {U:Nat->Bool}
theorem zt0(k:Nat):uL U (k+1)=if U k=true then uL U k++[k]else uL U k:=by unfold uL;rw[yqy,yot];cases h:U k<;>simp[h]
theorem zpy(a:Nat):sgU U (a+1)=if U a=true then sgU U a+1 else sgU U a:=by unfold sgU;rw[zt0];split<;>simp
theorem yb0{a b:Nat}(h:a<=b):sgU U a<=sgU U b:=by
 induction h with
 | refl=>exact ym9 _
 | step _ ih=>rw[zpy];split<;>omega
theorem zjr{a b:Nat}(h:a<b)(u:U a=true):sgU U a<sgU U b:=by have h1:=yb0 (U:=U) (show a+1<=b from h);rw[zpy,ym0 u]at h1;omega
theorem yad{a b:Nat}(ua:U a=true)(ub:U b=true)(h:sgU U a=sgU U b):a=b:=by
 rcases yqn a b with h1|h1|h1
 ·have:=zjr h1 ua;omega
 ·exact h1
 ·have:=zjr h1 ub;omega
theorem z96{a:Nat}(u:U a=true):∀ {N:Nat},a<N->(uL U N)[sgU U a]?=some a
 | 0,h=>by omega
 | N+1,h=>by
  rw[zt0];by_cases e:a=N
  ·subst e;rw[ym0 u];unfold sgU;rw[yoa (ym9 _),ypl];rfl
  ·have ih:=z96 u (N:=N) (by omega);split
   ·rw[you]
    ·exact ih
    ·exact zjr (show a<N by omega) u
   ·exact ih
theorem z1x{x:Nat}:∀ {N:Nat},x<sgU U N->∃ a,a<N/\U a=true/\sgU U a=x
 | 0,h=>by simp[sgU,uL]at h
 | N+1,h=>by
  by_cases h1:x<sgU U N
  ·obtain⟨a,h2,h3⟩:=z1x h1;exact⟨a,by omega,h3⟩
  ·rw[zpy]at h;split at h
   ·rename_i hu;exact⟨N,by omega,hu,by omega⟩
   ·omega
end
def kpA(U:Nat->Bool)(x:GArc):Bool:=U (fT x)&&U (tT x)
def zeo(U:Nat->Bool)(x:GArc):GArc:=⟨(sgU U (fT x):Nat),x.l,(sgU U (tT x):Nat),x.w⟩
noncomputable def trmA(A:GAuto)(U:Nat->Bool)(N:Nat):GAuto :=
 ⟨A.ring,A.sy,(sgU U N:Nat),(uL U N).map fun q=>A.ini.getD q A.ring.zero,(uL U N).map fun q=>A.fin.getD q A.ring.zero,(A.arcs.filter (kpA U)).map (zeo U)⟩
def tgt(A:GAuto)(U:Nat->Bool)(q l:Nat):List Nat:=((A.arcs.filter fun x=>decide (x.f=(q:Int))&&decide (x.l=(l:Int))).map tT).filter U
noncomputable def nzI(A:GAuto)(q:Nat):Bool:=decide (A.ini.getD q A.ring.zero≠A.ring.zero)
noncomputable def nzF(A:GAuto)(q:Nat):Bool:=decide (A.fin.getD q A.ring.zero≠A.ring.zero)
structure StOk (A:GAuto) (N:Nat):Prop where
 st:A.st=(N:Int)
 il:A.ini.length=N
 fl:A.fin.length=N
 f:∀ x∈A.arcs,0<=x.f/\x.f<(N:Int)
 t:∀ x∈A.arcs,0<=x.t/\x.t<(N:Int)
theorem zq0{U:Nat->Bool}{N a:Nat}(l:List GW)(d:GW)(h:a<N)(u:U a=true):((uL U N).map fun q=>l.getD q d).getD (sgU U a) d=l.getD a d:=by rw[ym8,yp6,z96 u h];rfl
theorem zms{A:GAuto}{U:Nat->Bool}{q l t:Nat}:t∈tgt A U q l ↔ ∃ x∈A.arcs,x.f=(q:Int)/\x.l=(l:Int)/\tT x=t/\U t=true:=by
 unfold tgt;simp only[yn3,ym5,ymd,decide_eq_true_eq];constructor
 ·rintro⟨⟨x,⟨h1,h2,h3⟩,rfl⟩,h4⟩;exact⟨x,h1,h2,h3,rfl,h4⟩
 ·rintro⟨x,h1,h2,h3,rfl,h4⟩;exact⟨⟨x,⟨h1,h2,h3⟩,rfl⟩,h4⟩
theorem yaa{A:GAuto}{U:Nat->Bool}{N:Nat}(h:StOk A N):TOk2 (tgt A U) N U:=⟨fun q l x hx=>by
 obtain⟨y,hy,_,_,rfl,hu⟩:=zms.1 hx;have:=h.t y hy;exact⟨by unfold tT;omega,hu⟩⟩
theorem ybl{A:GAuto}{U U':Nat->Bool}{N:Nat}(h:StOk A N)(hU':∀ x,x<sgU U N->U' x=true){a l:Nat}(ha:a<N)(ua:U a=true):tgt (trmA A U N) U' (sgU U a) l=(tgt A U a l).map (sgU U):=by
 unfold tgt trmA;simp only;have key:∀ L:List GArc,(∀ x∈L,x∈A.arcs)->((((L.filter (kpA U)).map (zeo U)).filter fun x=>decide (x.f=((sgU U a:Nat):Int))&&decide (x.l=(l:Int))).map tT).filter U'=(((L.filter fun x=>decide (x.f=(a:Int))&&decide (x.l=(l:Int))).map tT).filter U).map (sgU U):=by
  intro L
  induction L with
  | nil=>intro _;rfl
  | cons x L ih =>
   intro hL;have ih:=ih fun y hy=>hL y (ymr _ hy);obtain⟨f0,f1⟩:=h.f x (hL x yne);obtain⟨t0,t1⟩:=h.t x (hL x yne);have htN:tT x<N:=by unfold tT;omega
   have hf:x.f=(fT x:Int):=by unfold fT;omega
   have htm:tT (zeo U x)=sgU U (tT x):=by simp[tT,zeo]
   rw[yng,yng (xs:=L)];by_cases hk:kpA U x=true
   ·have hk2:=hk;simp only[kpA,ymd]at hk2;obtain⟨uf,ut⟩:=hk2;rw[ym0 hk,ymi,yng];have e:(decide ((zeo U x).f=((sgU U a:Nat):Int))&&decide ((zeo U x).l=(l:Int)))=(decide (x.f=(a:Int))&&decide (x.l=(l:Int))):=by
     congr 1
     rw[yoh,decide_eq_true_eq,decide_eq_true_eq];constructor
     ·intro e;have e2:((sgU U (fT x):Nat):Int)=((sgU U a:Nat):Int):=e;have:sgU U (fT x)=sgU U a:=by omega
      rw[hf,yad uf ua this]
     ·intro e;have:fT x=a:=by omega
      simp[zeo,this]
    rw[e];by_cases hc:(decide (x.f=(a:Int))&&decide (x.l=(l:Int)))=true
    ·rw[ym0 hc,ym0 hc,ymi,ymi,yng,yng,htm,ym0 (hU' _ (zjr htN ut)),ym0 ut,ymi,ih]
    ·rw[yl9 hc,yl9 hc,ih]
   ·rw[yl9 hk];by_cases hc:(decide (x.f=(a:Int))&&decide (x.l=(l:Int)))=true
    ·rw[ym0 hc,ymi,yng,yl9,ih];intro ut;apply hk;simp only[ymd,decide_eq_true_eq]at hc;have:fT x=a:=by omega
     simp only[kpA,ymd];exact⟨by rw[this];exact ua,ut⟩
    ·rw[yl9 hc,ih]
 exact key A.arcs fun _ h=>h
theorem ybh{A:GAuto}{U U':Nat->Bool}{N:Nat}(h:StOk A N)(hU':∀ x,x<sgU U N->U' x=true):Iso (tgt A U) (tgt (trmA A U N) U') N (sgU U N) U U' (sgU U) where
 ok:=yaa h
 ok':=⟨fun q l x hx=>by
  obtain⟨y,hy,_,_,rfl,hu⟩:=zms.1 hx;refine⟨?_,hu⟩;obtain⟨z,hz,rfl⟩:=ym5.1 (show y∈(A.arcs.filter (kpA U)).map (zeo U) from hy);obtain⟨hz1,hz2⟩:=yn3.1 hz;simp only[kpA,ymd]at hz2;have:=h.t z hz1;have htN:tT z<N:=by unfold tT;omega
  have:tT (zeo U z)=sgU U (tT z):=by simp[tT,zeo]
  rw[this];exact zjr htN hz2.2⟩
 lt a ha ua:=⟨zjr ha ua,hU' _ (zjr ha ua)⟩
 inj a b _ _ ua ub e:=yad ua ub e
 sur x hx _:=z1x hx
 tt a l ha ua:=ybl h hU' ha ua
theorem ydt{A:GAuto}{U U':Nat->Bool}{N:Nat}(h:StOk A N)(hU':∀ x,x<sgU U N->U' x=true)(sy:Nat)(g0 g1 g2 g3:Int) :
  grw (tgt A U) N U (nzI A) (nzF A) sy g0 g1 g2 g3=grw (tgt (trmA A U N) U') (sgU U N) U' (nzI (trmA A U N)) (nzF (trmA A U N)) sy g0 g1 g2 g3:=by
 refine ydu (ybh h hU') (fun a ha ua=>?_) (fun a ha ua=>?_) sy g0 g1 g2 g3
 ·unfold nzI trmA;rw[zq0 _ _ ha ua]
 ·unfold nzF trmA;rw[zq0 _ _ ha ua]
theorem yam{src dst:GArc->Nat}{A:GAuto}{U:Nat->Bool}{P0 P0':Nat->Prop}(hP:∀ q,P0 q->U q=true->P0' (sgU U q))(hs:∀ x,src (zeo U x)=sgU U (src x)/\dst (zeo U x)=sgU U (dst x))(hk:∀ x∈A.arcs,U (src x)=true->U (dst x)=true->kpA U x=true)
  (hb:∀ x∈A.arcs,Mk src dst A.arcs P0 (src x)->U (dst x)=true->U (src x)=true) {N:Nat} {q:Nat} (h:Mk src dst A.arcs P0 q) (hu:U q=true):Mk src dst (trmA A U N).arcs P0' (sgU U q):=by
 induction h with
 | base h=>exact .base (hP _ h hu)
 | step hx h ih =>
  rename_i x;have us:=hb x hx h hu;have i:=ih us;rw[<- (hs x).1]at i;rw[<- (hs x).2];exact .step (ym5.2 ⟨x,yn3.2 ⟨hx,hk x hx us hu⟩,rfl⟩) i
noncomputable def usB(A:GAuto)(N:Nat)(q:Nat):Bool:=(usV A N).getD q false
theorem ze4{A:GAuto}{N q:Nat}:usB A N q=true ↔ q<N/\Mk tT fT A.arcs (endP A N) q/\Mk fT tT A.arcs (begP A N) q:=by
 classical
 unfold usB usV;by_cases hq:q<N
 ·rw[andV,ym8,yma (by rw[zbr];exact hq),ynj,zdv,ym0 hq];have e1:(endV A N).getD q false=decide (Mk tT fT A.arcs (endP A N) q):=by unfold endV mkV;rw[ym8,yma (by rw[zbr];exact hq),ynj,zdv]
  have e2:(begV A N).getD q false=decide (Mk fT tT A.arcs (begP A N) q):=by unfold begV mkV;rw[ym8,yma (by rw[zbr];exact hq),ynj,zdv]
  rw[e1,e2];simp[hq]
 ·constructor
  ·intro h;rw[ym8,yo6 (by rw[zbf];omega)]at h;cases h
  ·intro h;exact absurd h.1 hq
theorem ybd{A:GAuto}{N:Nat}(h:StOk A N){x:Nat}(hx:x<sgU (usB A N) N):usB (trmA A (usB A N) N) (sgU (usB A N) N) x=true:=by
 obtain⟨q,hq,hu,rfl⟩:=z1x hx;have hu2:=ze4.1 hu;have hlt:=zjr hq hu;refine ze4.2 ⟨hlt,?_,?_⟩
 ·refine yam (P0:=endP A N) ?_ (fun x=>⟨by simp[tT,zeo],by simp[fT,zeo]⟩) (fun x _ h1 h2=>by simp only[kpA,ymd];exact⟨h2,h1⟩) ?_ hu2.2.1 hu
  ·intro q hp u;refine⟨zjr hp.1 u,?_⟩;show((uL (usB A N) N).map fun q=>A.fin.getD q A.ring.zero).getD _ _≠_;rw[show(trmA A (usB A N) N).ring=A.ring from rfl,zq0 _ _ hp.1 u];exact hp.2
  ·intro x hx hm hu';obtain⟨u1,u2,u3⟩:=ze4.1 hu';have:=h.t x hx;exact ze4.2 ⟨by unfold tT;omega,hm,.step hx u3⟩
 ·refine yam (P0:=begP A N) ?_ (fun x=>⟨by simp[fT,zeo],by simp[tT,zeo]⟩) (fun x _ h1 h2=>by simp only[kpA,ymd];exact⟨h1,h2⟩) ?_ hu2.2.2 hu
  ·intro q hp u;refine⟨zjr hp.1 u,?_⟩;show((uL (usB A N) N).map fun q=>A.ini.getD q A.ring.zero).getD _ _≠_;rw[show(trmA A (usB A N) N).ring=A.ring from rfl,zq0 _ _ hp.1 u];exact hp.2
  ·intro x hx hm hu';obtain⟨u1,u2,u3⟩:=ze4.1 hu';have:=h.f x hx;exact ze4.2 ⟨by unfold fT;omega,.step hx u2,hm⟩
theorem z35{a b c a' b' c':Int}:[a,b,c]<[a',b',c'] ↔ a<a'\/(a=a'/\(b<b'\/(b=b'/\c<c'))):=by simp[yrc]
theorem ybg{A:GAuto}{U:Nat->Bool}{N:Nat}(h:StOk A N)(hs:SSrt GArc.key A.arcs):SSrt GArc.key (trmA A U N).arcs:=by
 have hp:(A.arcs.filter (kpA U)).Pairwise fun a b=>a.key<b.key:=yq2 List.filter_sublist hs;show((A.arcs.filter (kpA U)).map (zeo U)).Pairwise _;rw[List.pairwise_map];refine hp.imp_of_mem ?_;intro a b ha hb hab;obtain⟨ha1,ha2⟩:=yn3.1 ha;obtain⟨hb1,hb2⟩:=yn3.1 hb;simp only[kpA,ymd]at ha2 hb2;have hfa:=h.f a ha1;have hfb:=h.f b hb1;have hta:=h.t a ha1;have htb:=h.t b hb1
 simp only[GArc.key,z35,zeo]at hab ⊢;have lt:∀ {x y:Int},0<=x->0<=y->U x.toNat=true->x<y->((sgU U x.toNat:Nat):Int)<((sgU U y.toNat:Nat):Int):=fun h1 h2 u h3=>by exact Int.ofNat_lt.2 (zjr (by omega) u)
 rcases hab with h1|⟨h0,h1|⟨h2,h1⟩⟩
 ·exact .inl (lt hfa.1 hfb.1 ha2.1 h1)
 ·exact .inr ⟨by unfold fT;rw[h0],.inl h1⟩
 ·exact .inr ⟨by unfold fT;rw[h0],.inr ⟨h2,lt hta.1 htb.1 ha2.2 h1⟩⟩
theorem yao{U:Nat->Bool}{N q:Nat}:q∈uL U N ↔ q<N/\U q=true:=by simp[uL]
theorem yfk{A:GAuto}{U:Nat->Bool}{N:Nat}(ok:A.ok)(h:StOk A N):(trmA A U N).ok:=by
 have hle:sgU U N<=N:=by have:=ynk U (List.range N);rw[List.length_range]at this;exact this
 have:=ok.st2;have:=h.st
 refine⟨ok.ring,ok.sy1,ok.sy2,Int.natCast_nonneg _,by show((sgU U N:Nat):Int)<=64;omega,?_,?_,?_,?_,?_,?_⟩
 ·show((((uL U N).map _).length:Nat):Int)=((sgU U N:Nat):Int);rw[yol];rfl
 ·show((((uL U N).map _).length:Nat):Int)=((sgU U N:Nat):Int);rw[yol];rfl
 ·have h1:=ok.al;have h2:=ynk (kpA U) A.arcs;show((A.arcs.filter (kpA U)).map (zeo U)).length<=2048;rw[yol];omega
 ·intro x hx;obtain⟨y,hy,rfl⟩:=ym5.1 (show x∈(A.arcs.filter (kpA U)).map (zeo U) from hx);obtain⟨hy1,hy2⟩:=yn3.1 hy;simp only[kpA,ymd]at hy2;obtain⟨c1,c2,c3,c4,c5,c6,c7⟩:=ok.arcs y hy1;have hf:=h.f y hy1;have ht:=h.t y hy1
  have s1:sgU U (fT y)<sgU U N:=zjr (by unfold fT;omega) hy2.1;have s2:sgU U (tT y)<sgU U N:=zjr (by unfold tT;omega) hy2.2;refine⟨Int.natCast_nonneg _,?_,Int.natCast_nonneg _,?_,c5,c6,c7⟩
  ·show((sgU U (fT y):Nat):Int)<((sgU U N:Nat):Int);omega
  ·show((sgU U (tT y):Nat):Int)<((sgU U N:Nat):Int);omega
 ·intro w hw;obtain⟨q,hq,rfl⟩:=ym5.1 (show w∈(uL U N).map fun q=>A.ini.getD q A.ring.zero from hw);have:=(yao.1 hq).1;rw[ym8,yma (by rw[h.il];exact this)];exact ok.ini _ (ym7 _)
 ·intro w hw;obtain⟨q,hq,rfl⟩:=ym5.1 (show w∈(uL U N).map fun q=>A.fin.getD q A.ring.zero from hw);have:=(yao.1 hq).1;rw[ym8,yma (by rw[h.fl];exact this)];exact ok.fin _ (ym7 _)
end Go.Ab
namespace Go.Ab
open Enc (enc)
attribute [local simp] zaj Opd.slots
theorem begF{A:GAuto}{N:Nat}(hil:A.ini.length=N)(hism:∀ w∈A.ini,w.sm 1048576):∀ q,q<N->FnSp (.bm F.bj (enc (zat A))) [.int .i64 (q:Nat)] (.bool (nzI A q)):=by
 intro q hq;have hqi:q<(zat A).a.ini.length:=by show q<A.ini.length;omega
 have h:=ztt (zat A) q hqi hism;have hg:A.ini.getD q A.ring.zero=A.ini[q]'(by omega):=by rw[ym8,yma (by omega)];rfl
 have e:decide ((zat A).a.ini[q]≠(zat A).a.ring.zero)=nzI A q:=by unfold nzI;rw[hg];rfl
 rw[e]at h;exact h
theorem endF{A:GAuto}{N:Nat}(hfl:A.fin.length=N)(hfsm:∀ w∈A.fin,w.sm 1048576):∀ q,q<N->FnSp (.bm F.bp (enc (zat A))) [.int .i64 (q:Nat)] (.bool (nzF A q)):=by
 intro q hq;have hqi:q<(zat A).a.fin.length:=by show q<A.fin.length;omega
 have h:=z4t (zat A) q hqi hfsm;have hg:A.fin.getD q A.ring.zero=A.fin[q]'(by omega):=by rw[ym8,yma (by omega)];rfl
 have e:decide ((zat A).a.fin[q]≠(zat A).a.ring.zero)=nzF A q:=by unfold nzF;rw[hg];rfl
 rw[e]at h;exact h
theorem z2o{A:GAuto}{N:Nat}(hA:CtrOk A N)(hil:A.ini.length=N)(hism:∀ w∈A.ini,w.sm 1048576){U:List Bool}(hU:U.length=N){sy:Nat}(hsy:sy<=64)(hsyA:A.sy=(sy:Nat)) :
  Sp P F.gn [enc (pth A U)] (.pure (resS (tw2 (tgT A U) N (fun s=>usf U s&&nzI A s) (nzF A) sy))):=by
 have h:=zv8 hA hU (begF hil hism) (endF hA.fl hA.fsm) rfl hsy hsyA;generalize tw2 (tgT A U) N (fun s=>usf U s&&nzI A s) (nzF A) sy=r0 at *
 have ev:(pth A U).v=zat A:=rfl;refine Sp.vz c.gn fun _=>?_;simp[g.gn];refine zaa h (by simp[ev]) ?_;cases r0 with
 | none=>simp[resS,ens]
 | some w=>simp[resS]
theorem yfz(q:Nat):∀ s,FnSp (.fn F.ee [.ref (.int .i64 (q:Nat))]) [.int .i64 (s:Nat)] (.bool (slf q s)):=by intro s;show Sp P F.ee [.int .i64 (s:Nat),.ref (.int .i64 (q:Nat))] (.pure (.bool (decide (s=q))));refine Sp.of_vmW c.ee (by simp) (Weak.openRef (t:=1) rfl rfl) ?_;simp[g.ee];omega
theorem zt1(st:St)(n:Nat)(v:PV)(k:Nat):toPV st (n+1) (.cp v k 0)=some (.ref v):=rfl
theorem z5c(st:St)(n:Nat)(v:PV)(k:Nat):deps st (n+1) (.cp v k 0)=[]:=rfl
def resL:Option (Nat × List Int)->PV
 | some (q,w)=>.tup [.int .i64 (q:Nat),.sl (ens w),.bool true]
 | none=>.tup [.int .i64 0,.sl [],.bool false]
def lpC:GC :=
.seq (.reg [⟨some 14,.ibin .lss (.t 13) (.t 12),none⟩] [])
 (.seq (.cond (.t 14) [14] (.nop)
 (.ext 0))
 (.seq (.blk 1 (.seq (.cut (.reg [⟨some 15,.mv (.t 13),none⟩,⟨some 5,.alloc 1 (.p (.int .i64 0)),none⟩,⟨none,.store 1 (.t 5) (.t 15),none⟩] [[],[],[15]]))
 (.seq (.reg [⟨some 16,.mkfn F.ee [.t 5],none⟩,⟨some 6,.mv (.t 16),none⟩] [[],[16]])
 (.seq (.reg [⟨some 18,.load 9 true (.t 1),none⟩,⟨some 19,.mv (.t 6),none⟩,⟨some 20,.mv (.t 6),none⟩,⟨some 21,.call F.ec [.t 18,.t 19,.t 20],none⟩,⟨some 17,.mv (.t 21),none⟩,⟨some 22,.extract (.t 17) 0,none⟩,⟨some 23,.extract (.t 17) 1,none⟩,⟨some 7,.mv (.t 22),none⟩,⟨some 8,.mv (.t 23),none⟩] [[],[],[6],[18,19,20],[21],[],[17],[22],[23]])
 (.seq (.reg [⟨some 24,.mv (.t 8),none⟩] [[8]])
 (.cond (.t 24) [24] (.seq (.reg [⟨some 25,.load 1 false (.t 5),none⟩,⟨some 26,.mv (.t 7),none⟩,⟨some 2,.mv (.t 25),none⟩,⟨some 3,.mv (.t 26),none⟩,⟨some 4,.mv (.c (.p (.bool true))),none⟩] [[1,5,12,13],[7],[25],[26]])
 (.ret))
 (.nop)))))))
 (.reg [⟨some 27,.ibin .add (.t 13) (.c (.p (.int .i64 1))),none⟩,⟨some 13,.mv (.t 27),none⟩] [[5,7,13],[27]])))
def lpD:GC :=
.seq (.reg [⟨some 1,.box 9 (.t 0),none⟩,⟨some 2,.mv (.c (.p (.int .i64 0))),none⟩,⟨some 3,.mv (.c .nil),none⟩,⟨some 4,.mv (.c (.p (.bool false))),none⟩] [[0],[2],[3],[4]])
 (.seq (.seq (.reg [⟨some 9,.faddr 0 (.t 1),none⟩,⟨some 10,.faddr 0 (.t 9),none⟩,⟨some 11,.faddr 3 (.t 10),none⟩,⟨some 12,.load 1 false (.t 11),none⟩,⟨some 13,.mv (.c (.p (.int .i64 0))),none⟩] [[],[9],[10],[11]])
 (.blk 0 (.loop lpC)))
 (.seq (.reg [⟨some 2,.mv (.c (.p (.int .i64 0))),none⟩,⟨some 3,.mv (.c .nil),none⟩,⟨some 4,.mv (.c (.p (.bool false))),none⟩] [[1,12,13]])
 (.ret)))
theorem clp:zac P F.d6=some ⟨28,1,lpD.er,[(2,none),(3,none),(4,none)]⟩:=by rw[c.d6];unfold g.d6;unfold g.sj;rfl
def lpS(A:GAuto)(U:List Bool)(N k:Nat):St:=mkSt [(1,.ptr 1 0 0 0),(12,.p (.int .i64 N)),(13,.p (.int .i64 k))] [(1,⟨9,[.p (enc (pth A U))]⟩)]
def lpS2(A:GAuto)(U:List Bool)(N k:Nat):St:=mkSt [(1,.ptr 1 0 0 0),(5,.cp (.int .i64 k) 1 0),(12,.p (.int .i64 N)),(13,.p (.int .i64 k))] [(1,⟨9,[.p (enc (pth A U))]⟩)]
theorem z3u{A:GAuto}{N:Nat}(hA:CtrOk A N){U:List Bool}(hU:U.length=N){sy:Nat}(hsy:sy<=64)(hsyA:A.sy=(sy:Nat)) :
  Sp P F.d6 [enc (pth A U)] (.pure (resL (lpG (tgT A U) N (usf U) sy (List.range' 0 N)))):=by
 have hN:=hA.N1;have hst:(pth A U).v.a.st=(N:Int):=hA.inN.st;generalize hr0:lpG (tgT A U) N (usf U) sy (List.range' 0 N)=r0;refine Sp.of_vm' clp (by simp) fun _=>?_;simp[lpD,hst];refine zag (S:=fun k:Nat=>lpS A U N k) (I:=fun k=>k<=N/\lpG (tgT A U) N (usf U) sy (List.range' k (N - k))=r0) (m:=fun k=>N - k) 0 (Weak.to [1,12,13] [((1,0),1)] (by simp[lpS,mkSt,hst])) ⟨yn0 _,hr0⟩ ?_;rintro k ⟨hk,hc⟩ R hn hr hx;have e1:=i64s k;by_cases hlt:k<N
 ·have hrg:List.range' k (N - k)=k::List.range' (k+1) (N - (k+1)):=by rw[show N - k=(N - (k+1))+1 by omega,ypi]
  rw[hrg]at hc;simp only[lpG]at hc;have htw:=zv8 hA hU (B:=slf k) (E:=slf k) (fun q _=>yfz k q) (fun q _=>yfz k q) rfl hsy hsyA;generalize tw2 (tgT A U) N (fun s=>usf U s&&slf k s) (slf k) sy=t0 at *
  simp[lpC,lpS,mkSt,hlt];refine yfa (S:=fun _:Unit=>lpS2 A U N k) (I:=fun _=>True) (fun R1 hn1 hr1 hx1=>?_) (fun _ _=>?_)
  ·simp;exact hn1 () _ ((Weak.freeze (t:=5) rfl).trans ((Weak.openRef (t:=5) rfl rfl).trans (Weak.to [1,5,12,13] [((1,0),1)] (by simp[lpS2,mkSt,killAll,zbe])))) trivial
  simp[lpS2,mkSt];refine zaa htw (by simp[zt1]) ?_;cases t0 with
  | none =>
   simp only at hc;simp[resS,killAll,zt1,z5c,e1];exact hn (k+1) _ (Weak.to [1,12,13] [((1,0),1)] (by simp[lpS,mkSt])) ⟨by omega,hc⟩ (by omega)
  | some w =>
   simp only at hc;subst hc;simp[resS,killAll,zt1,z5c];refine hr _ ?_;simp[resL]
 ·have:k=N:=by omega
  subst this;rw[ypl]at hc;simp only[List.range'_zero,lpG]at hc;subst hc;simp[lpC,lpS,mkSt];refine hx _ _ ?_;simp[resL,ens]
def z9k(d N x y:Nat):List AV:=[.ptr 900006 d 0 0,.cp (.int .i64 (x:Nat)) 1 0,.cp (.int .i64 (N:Nat)) 1 0,.cp (.int .i64 (y:Nat)) 1 0]
def z9l(A:GAuto)(U:List Bool)(d N:Nat)(l:Int)(k x:Nat):List AV:=[.cp (enc (pth A U)) 9 0,.cp (.int .i64 (k:Nat)) 1 0,.cp (.int .i64 (N:Nat)) 1 0,.cp (.int .i64 l) 1 0,.ptr 900006 d 0 0,.cp (.int .i64 (x:Nat)) 1 0]
def z9m(A:GAuto)(U:List Bool)(d N:Nat)(l:Int)(k:Nat):List AV:=[.cp (enc (pth A U)) 9 0,.cp (.int .i64 (k:Nat)) 1 0,.cp (.int .i64 (N:Nat)) 1 0,.cp (.int .i64 l) 1 0,.ptr 900006 d 0 0]
theorem wnat(m:Nat)(h:m<=8192):IntKind.i64.wrap (m:Int)=(m:Int):=i64w (by omega) (by omega)
theorem yj2(m n:Nat):(m:Int).tmod (n:Int)=((m % n:Nat):Int):=by rw[yq5 (by omega),<- Int.natCast_emod]
theorem zuu{N:Nat}(hN:N<=16):N*N*N<=4096:=ymf (ymf hN hN) hN
theorem trpw{N x y z:Nat}(hN:N<=16)(hx:x<N)(hy:y<N)(hz:z<N) :
  IntKind.i64.wrap ((x:Int)*N)=((x*N:Nat):Int)/\IntKind.i64.wrap (((x*N:Nat):Int)+y)=((x*N+y:Nat):Int)/\IntKind.i64.wrap (((x*N+y:Nat):Int)*N)=(((x*N+y)*N:Nat):Int)/\IntKind.i64.wrap ((((x*N+y)*N:Nat):Int)+z)=(((x*N+y)*N+z:Nat):Int):=by
 have h1:=zjl hx hy hz;have h2:=zuu hN;have h3:x*N+y<=(x*N+y)*N:=ypx _ (by omega);refine⟨?_,?_,?_,?_⟩
 ·rw[<- Int.natCast_mul];exact i64w (by omega) (by omega)
 ·rw[<- Int.natCast_add];exact i64w (by omega) (by omega)
 ·rw[<- Int.natCast_mul];exact i64w (by omega) (by omega)
 ·rw[<- Int.natCast_add];exact i64w (by omega) (by omega)
theorem vtrD{N:Nat}(hN:N<=16){U:List Bool}(hU:U.length=N){gl:PV}{goal:Nat->Bool}(hg:∀ n,n<N*N*N->FnSp gl [.int .i64 (n:Nat)] (.bool (goal n))){d x y:Nat}(hx:x<N)(hy:y<N) :
  Vtr (N*N*N) gl true F.lz (z9k d N x y) (Vin (N*N*N) d) (fun v z=>v.vis goal ((x*N+y)*N+z)) U where
 ok:=rfl
 nu:=rfl
 nx v x h _ _:=ztw goal _ h
 sp v z h hb _:=by
  have hsz:=zuu hN;have hzN:z<N:=by omega
  have hlt:=zjl hx hy hzN;obtain⟨e1,e2,e3,e4⟩:=trpw hN hx hy hzN;generalize (x*N+y)*N+z=n at *
  have hvs:=zls hg h.sl (by have:=h.us;omega) hlt true;have hvd:=h.d;subst hvd;have hv:=z94 v.d;refine HSp.of_mr c.lz (by simp[z9k]) (zf8 _ _ _ _) rfl ?_ fun A0 hA0=>MR.of_vm ?_
  ·show(true&&hpOk ks7 (hpZ (N*N*N) gl _ true))=true;rw[zbq];rfl
  simp[-Int.natCast_mul,-Int.natCast_add,g.lz,zbb,z9k,hpZ,hv,e1,e2,e3,e4];simp[visV];refine zcs hvs (by simp[visC,zcf]) ?_ rfl ?_ ?_
  ·simp[zbk,St.site,look,hpZ]
  ·have h1:=zbq (N*N*N) gl v true;have h2:=zbq (N*N*N) gl (v.vis goal n) true;show(zax ks7 _&&hpOk ks7 (hpZ (N*N*N) gl v true)&&zen ks7 (.av (.tup []))&&hpOk ks7 (hpZ (N*N*N) gl (v.vis goal n) true))=true;rw[h1,h2];rfl
  simp[visC];refine⟨.inr rfl,_,Weak.refl _,[],rfl,rfl,?_⟩;simp[zbk,St.site,look,hpZ,zcx]
theorem vtrC{A:GAuto}{N:Nat}(hA:CtrOk A N)(hN:N<=16){U:List Bool}(hU:U.length=N){gl:PV}{goal:Nat->Bool}(hg:∀ n,n<N*N*N->FnSp gl [.int .i64 (n:Nat)] (.bool (goal n))){d k x:Nat}(hx:x<N)(hk:k<N*N*N)(l:Int) :
  Vtr (N*N*N) gl true F.ly (z9l A U d N l k x) (Vin (N*N*N) d) (fun v y=>(tgS A U (k % N) l).foldl (fun v z=>v.vis goal ((x*N+y)*N+z)) v) U where
 ok:=rfl
 nu:=rfl
 nx v y h ha _:=by have:=zlt goal ((tgS A U (k % N) l).map fun z=>(x*N+y)*N+z) h;unfold Sv.vs at this;rw[List.foldl_map]at this;exact this
 sp v y h hy _:=by
  have h0:0<N:=by omega
  have hyN:y<N:=by omega
  have hqN:k % N<N:=ynn _ h0;have hto:=zru hA hU (vtrD hN hU hg hx hyN (d:=d)) hqN l h;have hvd:=h.d;have hk2:=zuu hN;have e3:(k:Int).tmod N=((k % N:Nat):Int):=by rw[yq5 (by omega),<- Int.natCast_emod]
  generalize k % N=B at *
  have hN0:¬ N=0:=by omega
  generalize hv2:(tgS A U B l).foldl (fun v z=>v.vis goal ((x*N+y)*N+z)) v=v2 at *
  refine HSp.of_mr c.ly (by simp[z9l]) (zf8 _ _ _ _) rfl ?_ fun A0 hA0=>?_
  ·show(true&&hpOk ks7 (hpZ (N*N*N) gl _ true))=true;rw[zbq];rfl
  unfold g.ly;refine MR.gseq ?_;simp[zbb,z9l,hpZ];have hf2:=zh5 v.m v.x.f;have hf3:=zgk v.d true;have hf4:=zh6 v.m v.x.f
  refine MR.weak (st1:=⟨[(1,.cp (enc (pth A U)) 9 0),(2,.cp (.int .i64 (k:Nat)) 1 0),(3,.cp (.int .i64 (N:Nat)) 1 0),(4,.cp (.int .i64 l) 1 0),(5,.ptr 900006 d 0 0),(6,.cp (.int .i64 x) 1 0),(7,.cp (.int .i64 y) 1 0)],hpZ (N*N*N) gl v true++[(DEAD,[none])]⟩)
   ((Weak.freeze (t:=7) rfl).trans ((Weak.openRef (t:=7) rfl rfl).trans (Weak.toF [1,2,3,4,5,6,7] ks7 [] ?_))) ?_
  ·simp[hpZ,killAll,zbe];exact⟨hf4,fun x hx=>ymn.1 hf2 x hx,fun x hx=>ymn.1 hf3 x hx⟩
  refine MR.of_vm ?_;simp[hpZ,pth,e3,hN0];refine zcs hto (by simp[z9k,zcf]) ?_ rfl ?_ ?_
  ·simp[zbk,St.site,look,hpZ]
  ·have h1:=zbq (N*N*N) gl v true;have h2:=zbq (N*N*N) gl v2 true;show(zax ks7 _&&hpOk ks7 (hpZ (N*N*N) gl v true)&&zen ks7 (.av (.tup []))&&hpOk ks7 (hpZ (N*N*N) gl v2 true))=true;rw[h1,h2];rfl
  simp;refine⟨.inr rfl,_,Weak.refl _,[],rfl,rfl,?_⟩;simp[zbk,St.site,look,hpZ,zcx]
theorem vtrB{A:GAuto}{N:Nat}(hA:CtrOk A N)(hN:N<=16){U:List Bool}(hU:U.length=N){gl:PV}{goal:Nat->Bool}(hg:∀ n,n<N*N*N->FnSp gl [.int .i64 (n:Nat)] (.bool (goal n))){d k:Nat}(hk:k<N*N*N)(l:Int) :
  Vtr (N*N*N) gl true F.lx (z9m A U d N l k) (Vin (N*N*N) d) (fun v x=>(tgS A U (k / N % N) l).foldl (fun v y=>(tgS A U (k % N) l).foldl (fun v z=>v.vis goal ((x*N+y)*N+z)) v) v) U where
 ok:=rfl
 nu:=rfl
 nx v x h ha _:=by have:=zlt goal ((tgS A U (k / N % N) l).flatMap fun y=>(tgS A U (k % N) l).map fun z=>(x*N+y)*N+z) h;unfold Sv.vs at this;rw[List.foldl_flatMap]at this;simpa only[List.foldl_map]using this
 sp v x h hx _:=by
  have h0:0<N:=by omega
  have hxN:x<N:=by omega
  have hqN:k / N % N<N:=ynn _ h0;have hto:=zru hA hU (vtrC hA hN hU hg hxN hk l (d:=d)) hqN l h;have hvd:=h.d;have hk2:=zuu hN;have hkN:k / N<=k:=yop _ _;have e1:IntKind.i64.wrap ((k:Int) / (N:Int))=((k / N:Nat):Int):=by rw[<- Int.natCast_ediv];exact wnat _ (by omega)
  have e3:((k / N:Nat):Int).tmod N=((k / N % N:Nat):Int):=yj2 _ _;generalize hB:k / N % N=B at *
  generalize hK:k / N=K2 at *
  have hN0:¬ N=0:=by omega
  generalize hv2:(tgS A U B l).foldl (fun v y=>(tgS A U (k % N) l).foldl (fun v z=>v.vis goal ((x*N+y)*N+z)) v) v=v2 at *
  refine HSp.of_mr c.lx (by simp[z9m]) (zf8 _ _ _ _) rfl ?_ fun A0 hA0=>?_
  ·show(true&&hpOk ks7 (hpZ (N*N*N) gl _ true))=true;rw[zbq];rfl
  unfold g.lx;refine MR.gseq ?_;simp[zbb,z9m,hpZ];have hf2:=zh5 v.m v.x.f;have hf3:=zgk v.d true;have hf4:=zh6 v.m v.x.f
  refine MR.weak (st1:=⟨[(1,.cp (enc (pth A U)) 9 0),(2,.cp (.int .i64 (k:Nat)) 1 0),(3,.cp (.int .i64 (N:Nat)) 1 0),(4,.cp (.int .i64 l) 1 0),(5,.ptr 900006 d 0 0),(6,.cp (.int .i64 x) 1 0)],hpZ (N*N*N) gl v true++[(DEAD,[none])]⟩)
   ((Weak.freeze (t:=6) rfl).trans ((Weak.openRef (t:=6) rfl rfl).trans (Weak.toF [1,2,3,4,5,6] ks7 [] ?_))) ?_
  ·simp[hpZ,killAll,zbe];exact⟨hf4,fun x hx=>ymn.1 hf2 x hx,fun x hx=>ymn.1 hf3 x hx⟩
  refine MR.of_vm ?_;simp[hpZ,pth,e1,e3,hN0];refine zcs hto (by simp[z9l,zcf]) ?_ rfl ?_ ?_
  ·simp[zbk,St.site,look,hpZ]
  ·have h1:=zbq (N*N*N) gl v true;have h2:=zbq (N*N*N) gl v2 true;show(zax ks7 _&&hpOk ks7 (hpZ (N*N*N) gl v true)&&zen ks7 (.av (.tup []))&&hpOk ks7 (hpZ (N*N*N) gl v2 true))=true;rw[h1,h2];rfl
  simp;refine⟨.inr rfl,_,Weak.refl _,[],rfl,rfl,?_⟩;simp[zbk,St.site,look,hpZ,zcx]
theorem z8r(goal:Nat->Bool)(T:Nat->Nat->List Nat)(N k l:Nat)(v:Sv):(T (k / N / N) l).foldl (fun v x=>(T (k / N % N) l).foldl (fun v y=>(T (k % N) l).foldl (fun v z=>v.vis goal ((x*N+y)*N+z)) v) v) v=v.vs goal (nx3 T N k l):=by
 unfold nx3 Sv.vs;rw[List.foldl_flatMap]
 congr 1
 funext v x;rw[List.foldl_flatMap]
 congr 1
 funext v y;rw[List.foldl_map]
theorem z3d{A:GAuto}{N:Nat}(hA:CtrOk A N)(hN:N<=16){U:List Bool}(hU:U.length=N){gl:PV}{goal:Nat->Bool}(hg:∀ n,n<N*N*N->FnSp gl [.int .i64 (n:Nat)] (.bool (goal n))){k:Nat}(hk:k<N*N*N)(l:Nat){v:Sv}(h:Vin (N*N*N) v.d v) :
  HSp P F.iq [.p (.int .i64 k),.p (.int .i64 l),visV,.p (.ref (enc (pth A U))),.p (.ref (.int .i64 N))] (hpZ (N*N*N) gl v false) (.tup []) (hpZ (N*N*N) gl (v.vs goal (nx3 (tgT A U) N k l)).up false):=by
 have h0:0<N:=by
  rcases ynx N with h|h
  ·subst h;simp at hk
  ·exact h
 have haN:k / N / N<N:=by rw[yof];exact Nat.div_lt_of_lt_mul hk
 have hto:=zru hA hU (vtrB hA hN hU hg hk (l:Int) (d:=v.d)) haN (l:Int) h;have hfo:=z8r goal (tgT A U) N k l v;have hd2:=zt6 goal (nx3 (tgT A U) N k l) v;rw[<- hfo]at hd2 ⊢
 change HSp P F.ax _ _ _ (hpZ (N*N*N) gl ((tgT A U (k / N / N) l).foldl (fun v x=>(tgT A U (k / N % N) l).foldl (fun v y=>(tgT A U (k % N) l).foldl (fun v z=>v.vis goal ((x*N+y)*N+z)) v) v) v) true)at hto
 clear hfo;generalize (tgT A U (k / N / N) l).foldl (fun v x=>(tgT A U (k / N % N) l).foldl (fun v y=>(tgT A U (k % N) l).foldl (fun v z=>v.vis goal ((x*N+y)*N+z)) v) v) v=v2 at *
 have hk2:=zuu hN;have hkN:k / N<=k:=yop _ _;have e1:IntKind.i64.wrap ((k:Int) / (N:Int))=((k / N:Nat):Int):=by rw[<- Int.natCast_ediv];exact wnat _ (by omega)
 have e2:IntKind.i64.wrap (((k / N:Nat):Int) / (N:Int))=((k / N / N:Nat):Int):=by rw[<- Int.natCast_ediv];exact wnat _ (ym6 (yop _ _) (by omega))
 generalize k / N / N=B at *
 generalize k / N=K2 at *
 have hN0:¬ N=0:=by omega
 have hf2:=zh5 v.m v.x.f;have hf4:=zh6 v.m v.x.f;refine HSp.of_mr c.iq (by simp) (zf8 _ _ _ _) rfl ?_ fun A0 hA0=>?_
 ·show(true&&hpOk ks7 (hpZ (N*N*N) gl _ false))=true;rw[zbq];rfl
 unfold g.iq;refine MR.gseq ?_;simp[zbb,hpZ,visV]
 refine MR.weak (st1:=⟨[(3,.cp (enc (pth A U)) 9 0),(4,.cp (.int .i64 (N:Nat)) 1 0),(5,.cp (.int .i64 k) 1 0),(6,.cp (.int .i64 l) 1 0),(7,.ptr 900006 v.d 0 0)],hpZ (N*N*N) gl v true++[(DEAD,[none])]⟩)
  ((Weak.freeze (t:=5) rfl).trans ((Weak.freeze (t:=6) rfl).trans ((Weak.openRef (t:=3) rfl rfl).trans ((Weak.openRef (t:=4) rfl rfl).trans ((Weak.openRef (t:=5) rfl rfl).trans ((Weak.openRef (t:=6) rfl rfl).trans
   (zjv [3,4,5,6,7] [(900000,[(900000,0)]),(900001,[(900001,0)]),(900002,[(900002,0)]),(900003,[(900003,0)]),(900004,[(900004,0)]),(900005,[(900005,0)]),(900006,[(900006,0),(7,0)])] ?_
    (fun σ => σ 900000 0=(900000,0) /\ σ 900001 0=(900001,0) /\ σ 900002 0=(900002,0) /\ σ 7 0=(900006,v.d) /\ σ 900004 0=(900004,0) /\ σ 900005 0=(900005,0)/\∀ g,σ 900003 g=(900003,g)) ?_ ?_))))))) ?_
 ·simp[zh3,zuq,zfl,PINB,DEAD,zes,St.put,killAll,St.kill,zbe]
 ·simp[sgP,zhw,zej,St.site,look,St.put,killAll,St.kill,zbe,zv3]
 ·rintro σ ⟨s1,s2,s3,s4,s5,s6,s7⟩;have e:=zia σ v.x.s;simp[hpP,catS,sub,subO,subL,St.get,look,St.site,hpZ,St.put,killAll,St.kill,zbe,s2,s4,e,z4q s7,z4o,zv2,zv5 s1 s3 s5 s6,zv4]
 refine MR.of_vm ?_;simp[hpZ,pth,e1,e2,hN0];refine zcs hto (by simp[z9m,zcf]) ?_ rfl ?_ ?_
 ·simp[zbk,St.site,look,hpZ]
 ·have h1:=zbq (N*N*N) gl v true;have h2:=zbq (N*N*N) gl v2 true;show(zax ks7 _&&hpOk ks7 (hpZ (N*N*N) gl v true)&&zen ks7 (.av (.tup []))&&hpOk ks7 (hpZ (N*N*N) gl v2 true))=true;rw[h1,h2];rfl
 simp;refine⟨.inr rfl,_,Weak.kill _ 900006 v2.d,[],rfl,rfl,?_⟩;exact zpj
end Go.Ab
