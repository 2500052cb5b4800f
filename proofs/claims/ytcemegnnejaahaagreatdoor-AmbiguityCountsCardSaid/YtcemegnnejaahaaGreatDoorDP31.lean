/- Lemmas for the law AmbiguityCounts, part 31. No conditions. -/
import Derived.Test.YtcemegnnejaahaaGreatDoorDP30
set_option maxRecDepth 100000
set_option maxHeartbeats 4000000
set_option linter.all false
namespace Go.Ab
open Enc (enc)
attribute [local simp] zai Opd.slots
def stpL(F:List GArc)(l:Int):List GArc:=(F.dropWhile fun x=>decide (x.l<l)).takeWhile fun x=>decide (x.l=l)
theorem zjj{α : Type}{p : α -> Bool}:∀ {l:List α} {k:Nat},k<=l.length->(∀ i,(h:i<l.length)->i<k->p l[i]=true)->((h:k<l.length)->p l[k]=false)->l.dropWhile p=l.drop k
 | [],k,hk,_,_=>by simp at hk;subst hk;rfl
 | x::l,0,_,_,h2=>by
  have:=h2 (by simp);rw[List.dropWhile_cons_of_neg (by simpa using this)];rfl
 | x::l,k+1,hk,h1,h2=>by have h0:=h1 0 (by simp) (by omega);rw[List.dropWhile_cons_of_pos (by simpa using h0),List.drop_succ_cons];exact zjj (by simpa using hk) (fun i hi hik=>h1 (i+1) (by simpa using hi) (by omega)) fun h=>h2 (by simpa using h)
theorem zf7{α : Type}{p : α -> Bool}:∀ {l:List α} {k:Nat},k<=l.length->(∀ i,(h:i<l.length)->i<k->p l[i]=true)->((h:k<l.length)->p l[k]=false)->l.takeWhile p=l.take k
 | [],k,hk,_,_=>by simp
 | x::l,0,_,_,h2=>by
  have:=h2 (by simp);rw[List.takeWhile_cons_of_neg (by simpa using this)];rfl
 | x::l,k+1,hk,h1,h2=>by
  have h0:=h1 0 (by simp) (by omega);rw[List.takeWhile_cons_of_pos (by simpa using h0),List.take_succ_cons]
  congr 1
  exact zf7 (by simpa using hk) (fun i hi hik=>h1 (i+1) (by simpa using hi) (by omega)) fun h=>h2 (by simpa using h)
def p1S(F:List GArc)(l:Int)(k:Nat):St:=mkSt [(2,.p (.int .i64 l)),(7,.p (.sl (ens (F.drop k))))] []
def p2S(D:List GArc)(l:Int)(k:Nat):St:=mkSt [(2,.p (.int .i64 l)),(7,.p (.sl (ens D))),(26,.p (.sl (ens D))),(27,.p (.int .i64 D.length)),(28,.p (.int .i64 k))] []
theorem z6c{D:List GArc}{l:Int}(hD:D.length<=100000){Q:Exit->St->Prop}{ks:List Kt}{st:St}(hw:Weak st (p2S D l 0))(hr:∀ s,s.get 6=.p (.sl (ens (D.takeWhile fun x=>decide (x.l=l))))->Q .ret s)
  (hx:D.takeWhile (fun x=>decide (x.l=l))=D->zb6 P 42 Q (zaw 2 ks) 2 (p2S D l D.length)):vL P 42 Q g.l7 ks st:=by
 refine zaj (S:=fun k:Nat=>p2S D l k) (I:=fun k=>k<=D.length/\∀ i,(h:i<D.length)->i<k->D[i].l=l) (m:=fun k=>D.length - k) 0 hw ⟨by omega,fun i _ hi=>by omega⟩ ?_;rintro k ⟨hk,hi⟩ R hn hr' hx';have e1:=i64s k;by_cases hlt:k<D.length
 ·simp[g.l7,p2S,mkSt,hlt];refine zad hlt ?_;refine⟨fun he=>?_,fun hne=>?_⟩
  ·rw[e1];refine hn (k+1) _ (Weak.to [2,7,26,27,28] [] (by simp[p2S,mkSt])) ⟨by omega,fun i hi1 hik=>?_⟩ (by omega);by_cases e:i=k
   ·subst e;exact he
   ·exact hi i hi1 (by omega)
  ·refine⟨by omega,?_⟩;refine hr' _ (hr _ ?_);rw[zf7 hk (fun i hi1 hik=>by simpa using hi i hi1 hik) fun h=>by simpa using hne];simp
 ·have:k=D.length:=by omega
  subst this;simp[g.l7,p2S,mkSt];refine hx' _ _ ?_;simpa[p2S,mkSt]using hx (by rw[zf7 hk (fun i hi1 hik=>by simpa using hi i hi1 hik) (fun h=>by omega),List.take_length])
theorem zsm(A:GAuto)(N q:Nat)(l:Int)(h:A.inN N)(hs:FS A.arcs)(hq:q<N)(hN:N<=1000)(hl:A.arcs.length<=100000):Sp P F.ec [enc (zas A),.int .i64 q,.int .i64 l] (.pure (.sl (ens (stpL (zba A.arcs q) l)))):=by
 have hF:(zba A.arcs q).length<=100000:=yf7 (yh3 _ _) hl;have hfr:=z0o A N q h hs hq hN hl;generalize zba A.arcs q=F at *
 refine Sp.vz c.ec fun _=>?_;generalize hR:retP [(6,none)] (.pure (.sl (ens (stpL F l))))=R;simp[g.ec];refine zaf hfr ?_;simp;refine zaj (S:=fun k:Nat=>p1S F l k) (I:=fun k=>k<=F.length/\∀ i,(h:i<F.length)->i<k->F[i].l<l) (m:=fun k=>F.length - k) 0 (Weak.to [2,7] [] (by simp[p1S,mkSt])) ⟨by omega,fun i _ hi=>by omega⟩ ?_;rintro k ⟨hk,hi⟩ R1 hn hr hx;have hD:(F.drop k).length<=100000:=by rw[yhk];omega
 have fin:((h:k<F.length)->¬ F[k].l<l)->∀ st',Weak st' (p2S (F.drop k) l 0)->vL P 42 R g.l7 [.blk 2,.code (.seq (.reg [⟨some 41,.mv (.t 7),none⟩,⟨some 6,.mv (.t 41),none⟩] [[2,7,26,27,28],[41]]) .ret)] st':=by
  intro hge st' hw;have hstp:stpL F l=(F.drop k).takeWhile fun x=>decide (x.l=l):=by unfold stpL;rw[zjj hk (fun i h1 h2=>by simpa using hi i h1 h2) fun h=>by simpa using hge h]
  refine z6c hD hw (fun s hs=>?_) (fun he=>?_)
  ·have hs':look s.sl 6 AV.undef=_:=hs;rw[<- hR,hstp];simp[hs']
  ·rw[<- hR,hstp,he];simp[p2S,mkSt]
 by_cases hlt:k<F.length
 ·have hd:F.drop k=F[k]::F.drop (k+1):=yho hlt;simp[g.n5,p1S,mkSt];refine⟨fun _=>⟨F[k],by rw[hd];rfl,fun hl=>⟨by omega,?_⟩,fun hl=>?_⟩,fun h=>by omega⟩
  ·rw[yfw (by rw[yhk];omega)];exact hn (k+1) _ (Weak.to [2,7] [] (by simp[p1S,mkSt])) ⟨by omega,fun i h1 h2=>by
    by_cases e:i=k
    ·subst e;exact hl
    ·exact hi i h1 (by omega)⟩ (by omega)
  ·refine hx _ _ ?_;simp;exact fin (fun _=>by omega) _ (Weak.to [2,7,26,27,28] [] (by simp[p2S,mkSt]))
 ·have:k=F.length:=by omega
  subst this;have hnil:F.drop F.length=[]:=List.drop_length;simp[g.n5,p1S,mkSt];refine hx _ _ ?_;simp;refine fin (fun h=>by omega) _ (Weak.to [2,7,26,27,28] [] (by simp[p2S,mkSt]))
structure Sv where
 x:Sx
 m:Nat
 d:Nat
def Sv.vis(goal:Nat->Bool)(v:Sv)(n:Nat):Sv:=if v.x.s.getD n true=true then v else⟨v.x.vis goal n,if v.x.f=[]then v.m else v.m+1,v.d⟩
def Sv.vs(goal:Nat->Bool)(v:Sv)(l:List Nat):Sv:=l.foldl (Sv.vis goal) v
theorem znq(goal:Nat->Bool)(v:Sv)(n:Nat):(v.vis goal n).x=v.x.vis goal n:=by unfold Sv.vis Sx.vis;split<;>rfl
theorem zsx(goal:Nat->Bool)(v:Sv)(n:Nat):(v.vis goal n).d=v.d:=by unfold Sv.vis;split<;>rfl
theorem zq8(goal:Nat->Bool):∀ (l:List Nat) (v:Sv),(v.vs goal l).x=v.x.vs goal l
 | [],_=>rfl
 | n::l,v=>by have:=zq8 goal l (v.vis goal n);rw[znq]at this;exact this
theorem zq9(goal:Nat->Bool):∀ (l:List Nat) (v:Sv),(v.vs goal l).d=v.d
 | [],_=>rfl
 | n::l,v=>by have:=zq9 goal l (v.vis goal n);rw[zsx]at this;exact this
def natI(l:List Nat):List Int:=l.map fun(n:Nat)=>(n:Int)
def fnd(m:Nat):List Nat->AV
 | []=>.nil
 | n::l=>.own 900003 m 0 (n::l).length
def fob(m:Nat):List Nat->List (Option AObj)
 | []=>List.replicate m none
 | n::l=>List.replicate m none++[some ⟨1,avs (natI (n::l))⟩]
def visC:List AV:=[.ptr 900000 0 0 0,.ptr 900002 0 0 0,.ptr 900004 0 0 0,.ptr 900005 0 0 0]
def visV:AV:=.fn F.bh visC
def visO(d:Nat)(cc:Bool):List (Option AObj):=List.replicate d none++(if cc=true then[some ⟨1,[visV]⟩]else[])
def hpZ(size:Nat)(gl:PV)(v:Sv)(cc:Bool):List Site:=[(900000,[some ⟨1,[.own 900001 0 0 size]⟩]),(900001,[some ⟨1,avs v.x.s⟩]),(900002,[some ⟨1,[fnd v.m v.x.f]⟩]),(900003,fob v.m v.x.f),(900004,[some ⟨1,[.p (.bool v.x.r)]⟩]),(900005,[some ⟨1,[.p gl]⟩]),(900006,visO v.d cc)]
abbrev ks7:List Nat:=[900000,900001,900002,900003,900004,900005,900006]
theorem zhg(m:Nat)(f:List Nat):zce ks7 (fnd m f)=true:=by cases f<;>rfl
theorem zsf(ks:List Nat)(m:Nat):(List.replicate m (none:Option AObj)).all (ze5 ks)=true:=by rw[yfp];intro x hx;rw[List.eq_of_mem_replicate hx];rfl
theorem zhf(m:Nat)(f:List Nat):(fob m f).all (ze5 ks7)=true:=by
 cases f with
 | nil=>exact zsf _ _
 | cons n l =>
  simp only[fob,List.all_append,zsf,yhp,yi1,List.all_nil,yjr];show zam _ (avs (natI (n::l)))=true;simp
theorem zf3(d:Nat)(cc:Bool):(visO d cc).all (ze5 ks7)=true:=by unfold visO;rw[List.all_append,zsf,yhp];cases cc<;>rfl
theorem zbn(size:Nat)(gl:PV)(v:Sv)(cc:Bool):hpOk ks7 (hpZ size gl v cc)=true:=by have h1:=zhf v.m v.x.f;have h2:=zf3 v.d cc;have h3:=zhg v.m v.x.f;simp only[hpOk,hpZ,yi1,List.all_nil,h1,h2,yjr,ze5,zam,h3];simp[zce]
theorem zfq(size:Nat)(gl:PV)(v:Sv)(cc:Bool):(hpZ size gl v cc).all (fun q=>decide (PINB<=q.1)&&decide (q.1<999999))=true:=by simp[hpZ,PINB]
theorem zru(st:St):∀ l:List PV,(l.map AV.p).mapM (toPV st FUEL)=some l
 | []=>rfl
 | x::l=>by have:=zru st l;rw[yfq,yhz,this];rfl
def FnSp(gl:PV)(args:List PV)(r:PV):Prop:=match gl with
 | .fn f caps=>Sp P f (args++caps) (.pure r)
 | .bm f v=>Sp P f (v::args) (.pure r)
 | _=>False
theorem zfx{st:St}{e:Nat}{gl:PV}{args:List PV}{r:PV}{K:PCall->AV->St->Prop}(h:FnSp gl args r)(hr:r.flatU=true)(k:∀ cc,K cc (.p r) st):zc1 P st e (.p gl) (args.map .p) K:=by
 cases gl with
 | fn f caps =>
  refine zaa (args:=args++caps) h (by rw[<- List.map_append];exact zru st _) ?_;rw[yf1 hr];exact k _
 | bm f v =>
  refine zaa (args:=v::args) h (zru st (v::args)) ?_;rw[yf1 hr];exact k _
 | _=>exact h.elim
theorem z07(l:List Bool)(i:Nat)(v:Bool):(avs l).set i (.p (.bool v))=avs (l.set i v):=by show(avs l).set i (.p (enc v))=_;simp[-zat,avs,ens,yht]
theorem zka{size:Nat}{gl:PV}{goal:Nat->Bool}(hg:∀ n,n<size->FnSp gl [.int .i64 (n:Nat)] (.bool (goal n))){v:Sv}(hl:v.x.s.length=size)(hf:v.x.f.length<=100000){n:Nat}(hn:n<size)(cc:Bool) :
  HSp P F.bh (.p (.int .i64 n)::visC) (hpZ size gl v cc) (.tup []) (hpZ size gl (v.vis goal n) cc):=by
 have hns:n<v.x.s.length:=by omega
 have gs:v.x.s.getD n true=v.x.s[n]:=by rw[yfj,yfm hns];rfl
 have h2:=zhf v.m v.x.f;have h3:=zf3 v.d cc;have h4:=zhg v.m v.x.f;refine HSp.of_mr c.bh (by simp[visC]) (zfq _ _ _ _) rfl ?_ fun A0 hA0=>MR.of_vm ?_
 ·show(true&&hpOk ks7 (hpZ size gl _ cc))=true;rw[zbn];rfl
 have hs1:=znf v.x.s;by_cases hm:v.x.s[n]=true
 ·have hv:v.vis goal n=v:=by unfold Sv.vis;rw[gs,yf1 hm]
  rw[hv];simp[g.bh,za5,hpZ,visC,hn];refine⟨by omega,zad hns ?_⟩;simp[hm];refine⟨.inr rfl,_,Weak.refl _,_,rfl,?_,?_⟩
  ·rfl
  ·simp[zbb,St.site,look]
 ·have hm':v.x.s[n]=false:=by simpa using hm
  have hv:v.vis goal n=⟨⟨v.x.s.set n true,v.x.f++[n],v.x.r||goal n⟩,if v.x.f=[]then v.m else v.m+1,v.d⟩:=by unfold Sv.vis Sx.vis;rw[gs,yf0 hm,yf0 hm]
  rw[hv];obtain⟨⟨s,f,r⟩,m,d⟩:=v;simp only at *
  have hvo:∀ σ : Sg,σ 900000 0=(900000,0) -> σ 900002 0=(900002,0) -> σ 900004 0=(900004,0) -> σ 900005 0=(900005,0)->(visO d cc).map (Option.map (subO σ))=visO d cc:=by intro σ s1 s2 s3 s4;unfold visO;rw[ygx,List.map_replicate];cases cc<;>simp[subO,subL,sub,visV,visC,s1,s2,s3,s4]
  cases f with
  | nil =>
   have fin:∀ rr r0:Bool,retH [] (.tup []) (hpZ size gl ⟨⟨s.set n true,[n],rr⟩,m,d⟩ cc) .normal ⟨[],[(900004,[some ⟨1,[.p (.bool rr)]⟩]),(900002,[some ⟨1,[.own 17 0 0 1]⟩]),(17,[some ⟨1,[.p (.int .i64 n)]⟩]),(16,[some ⟨1,[.p (.int .i64 n)]⟩]),(900001,[some ⟨1,avs (s.set n true)⟩]),
     (900000,[some ⟨1,[.own 900001 0 0 size]⟩]),(900001,[some ⟨1,avs s⟩]),(900002,[some ⟨1,[.nil]⟩]),(900003,List.replicate m none),(900004,[some ⟨1,[.p (.bool r0)]⟩]),(900005,[some ⟨1,[.p gl]⟩]),(900006,visO d cc)]⟩:=by
    intro rr r0
    refine⟨.inr rfl,⟨[],hpZ size gl ⟨⟨s.set n true,[n],rr⟩,m,d⟩ cc++[(DEAD,[none])]⟩,zfj [] [(900000,[(900000,0)]),(900001,[(900001,0)]),(900002,[(900002,0)]),(900003,[(900003,0),(17,0)]),(900004,[(900004,0)]),(900005,[(900005,0)]),(900006,[(900006,0)])] ?_
     (fun σ => σ 900000 0=(900000,0) /\ σ 900001 0=(900001,0) /\ σ 900002 0=(900002,0) /\ σ 17 0=(900003,m) /\ σ 900004 0=(900004,0) /\ σ 900005 0=(900005,0)) ?_ ?_,[],rfl,rfl,?_⟩
    ·simp[ze4,zl6,zdy,PINB,DEAD,zct]
    ·simp[sgP,zfr,zdm,St.site,look]
    ·rintro σ ⟨s1,s2,s3,s4,s5,s6⟩;have e:=zet σ (s.set n true);rw[<- z07]at e;simp[hpP,catS,sub,subO,subL,St.get,look,St.site,hpZ,fnd,fob,natI,s2,s4,e,hvo σ s1 s3 s5 s6]
    ·simp[zbb,St.site,look,hpZ,DEAD]
   simp[g.bh,za5,hpZ,visC,hn,fnd,fob];refine⟨by omega,zad hns ?_⟩;simp[-zc1,hm',hn,hl];refine zad hns ?_;rw[z07];cases r with
   | true =>
    simp;simpa[hpZ,fnd,fob]using fin true true
   | false =>
    simp[-zc1];refine zfx (hg n hn) rfl fun c=>?_;simp;simpa[hpZ,fnd,fob]using fin (goal n) false
  | cons a l =>
   have hnl:l.length+1=(natI (a::l)).length:=by simp[natI]
   have hna:avs (natI (a::l))++[.p (.int .i64 n)]=avs (natI (a::(l++[n]))):=by rw[show natI (a::(l++[n]))=natI (a::l)++[(n:Int)] by simp[natI],zd7];rfl
   have hlen:l.length<=100000:=by simp only[yg2]at hf;omega
   have fin:∀ rr r0:Bool,retH [] (.tup []) (hpZ size gl ⟨⟨s.set n true,a::(l++[n]),rr⟩,m+1,d⟩ cc) .normal ⟨[],[(900004,[some ⟨1,[.p (.bool rr)]⟩]),(900002,[some ⟨1,[.own 17 0 0 (l.length+1+1)]⟩]),(17,[some ⟨1,avs (natI (a::(l++[n])))⟩]),(900003,List.replicate m none++[none]),(16,[some ⟨1,[.p (.int .i64 n)]⟩]),(900001,[some ⟨1,avs (s.set n true)⟩]),
     (900000,[some ⟨1,[.own 900001 0 0 size]⟩]),(900001,[some ⟨1,avs s⟩]),(900002,[some ⟨1,[.own 900003 m 0 (l.length+1)]⟩]),(900003,List.replicate m none++[some ⟨1,avs (natI (a::l))⟩]),(900004,[some ⟨1,[.p (.bool r0)]⟩]),(900005,[some ⟨1,[.p gl]⟩]),(900006,visO d cc)]⟩:=by
    intro rr r0;clear hna;generalize hX:natI (a::(l++[n]))=X;generalize natI (a::l)=Y;have hfn:∀ k,fnd k (a::(l++[n]))=.own 900003 k 0 (l.length+1+1):=by intro k;simp[fnd]
    have hfo:∀ k,fob k (a::(l++[n]))=List.replicate k none++[some ⟨1,avs X⟩]:=by intro k;rw[<- hX];rfl
    refine⟨.inr rfl,⟨[],hpZ size gl ⟨⟨s.set n true,a::(l++[n]),rr⟩,m+1,d⟩ cc++[(DEAD,[none])]⟩,zfj [] [(900000,[(900000,0)]),(900001,[(900001,0)]),(900002,[(900002,0)]),(900003,[(900003,0),(17,0)]),(900004,[(900004,0)]),(900005,[(900005,0)]),(900006,[(900006,0)])] ?_
     (fun σ => σ 900000 0=(900000,0) /\ σ 900001 0=(900001,0) /\ σ 900002 0=(900002,0) /\ σ 17 0=(900003,m+1) /\ σ 900004 0=(900004,0) /\ σ 900005 0=(900005,0)) ?_ ?_,[],rfl,rfl,?_⟩
    ·simp[ze4,zl6,zdy,PINB,DEAD,zct]
    ·simp[sgP,zfr,zdm,St.site,look]
    ·rintro σ ⟨s1,s2,s3,s4,s5,s6⟩;have e:=zet σ (s.set n true);have e2:=zet σ X;rw[<- z07]at e;simp[hpP,catS,sub,subO,subL,St.get,look,St.site,hpZ,hfn,hfo,s2,s4,e,e2,hvo σ s1 s3 s5 s6];rw[yj5];simp
    ·simp[zbb,St.site,look,hpZ,DEAD]
   simp[g.bh,za5,hpZ,visC,hn,fnd,fob];refine⟨by omega,zad hns ?_⟩;simp[-zc1,hm',hn,hl];refine zad hns ⟨⟨hnl,by omega⟩,?_⟩;rw[z07,hna];cases r with
   | true =>
    simp;simpa[hpZ,fnd,fob]using fin true true
   | false =>
    simp[-zc1];refine zfx (hg n hn) rfl fun c=>?_;simp;simpa[hpZ,fnd,fob]using fin (goal n) false
structure GPaths where
 v:GView
 u:List Bool
instance:Enc GPaths:=⟨fun x=>.agg [.int .i64 x.v.a.ring.kind,.sl (ens x.v.a.ring.parts),.int .i64 x.v.a.sy,.int .i64 x.v.a.st,.sl (ens x.v.a.ini),.sl (ens x.v.a.fin),.sl (ens x.v.a.arcs),.sl (ens x.v.first),.sl (ens x.u)],9,by decide,fun _=>rfl⟩
@[simp] theorem yao(x:GPaths):enc x=.agg [.int .i64 x.v.a.ring.kind,.sl (ens x.v.a.ring.parts),.int .i64 x.v.a.sy,.int .i64 x.v.a.st,.sl (ens x.v.a.ini),.sl (ens x.v.a.fin),.sl (ens x.v.a.arcs),.sl (ens x.v.first),.sl (ens x.u)]:=rfl
@[simp] theorem z7d:Enc.sz GPaths=9:=rfl
def pth(A:GAuto)(U:List Bool):GPaths:=⟨zas A,U⟩
def tgS(A:GAuto)(U:List Bool)(q:Nat)(l:Int):List Nat:=((stpL (zba A.arcs q) l).map tT).filter fun t=>U.getD t false
structure Vtr (size:Nat) (gl:PV) (cc:Bool) (f:FuncId) (caps:List AV) (I:Sv->Prop) (s:Sv->Nat->Sv) (U:List Bool):Prop where
 ok:zam ks7 caps=true
 nu:caps.all zb0=true
 sp:∀ v x,I v->x<U.length->U.getD x false=true->HSp P f (.p (.int .i64 (x:Nat))::caps) (hpZ size gl v cc) (.tup []) (hpZ size gl (s v x) cc)
 nx:∀ v x,I v->x<U.length->U.getD x false=true->I (s v x)
theorem z3p{size:Nat}{gl:PV}{cc:Bool}{f:FuncId}{caps:List AV}{I:Sv->Prop}{s:Sv->Nat->Sv}{U:List Bool}(h:Vtr size gl cc f caps I s U){v:Sv}{x:Nat}(hI:I v)(hx:x<U.length)(hu:U.getD x false=true){st:St}{e:Nat}{K:PCall->AV->St->Prop}
  (hk:zbb st (hpZ size gl v cc) (hpZ size gl v cc)) (k:∀ c',K c' (.tup []) ⟨st.sl,hpZ size gl (s v x) cc++st.hp⟩):zc1 P st e (.fn f caps) [.p (.int .i64 (x:Nat))] K:=by
 refine zb7 (h.sp v x hI hx hu) ?_ hk rfl ?_ (k _)
 ·rw[yk9,yi1,h.nu];rfl
 ·have h1:=zbn size gl v cc;have h2:=zbn size gl (s v x) cc;show(zam ks7 (.p (.int .i64 (x:Nat))::caps)&&hpOk ks7 (hpZ size gl v cc)&&zdi ks7 (.av (.tup []))&&hpOk ks7 (hpZ size gl (s v x) cc))=true;rw[h1,h2,zam,h.ok];rfl
def toS(A:GAuto)(U:List Bool)(V:AV)(L:List GArc)(hp:List Site)(k:Nat):St :=
 ⟨[(3,V),(4,.ptr 4 0 0 0),(14,.p (.sl (ens L))),(15,.p (.int .i64 L.length)),(16,.p (.int .i64 k))],hp++[(4,[some ⟨9,[.p (enc (pth A U))]⟩]),(DEAD,[none])]⟩
def tgL(U:List Bool)(L:List GArc):List Nat:=(L.map tT).filter fun t=>U.getD t false
theorem z0x(U:List Bool)(L:List GArc){k:Nat}(h:k<L.length):tgL U (L.take (k+1))=tgL U (L.take k)++(if U.getD (tT L[k]) false=true then[tT L[k]]else[]):=by
 unfold tgL;rw[yfu h,ygx,yiq]
 congr 1
 simp only[yfq,yji,ygw,List.filter_nil]
theorem zsl{size:Nat}{gl:PV}{cc:Bool}{f:FuncId}{caps:List AV}{I:Sv->Prop}{s:Sv->Nat->Sv}{U:List Bool}(h:Vtr size gl cc f caps I s U):∀ (l:List Nat) (v:Sv),I v->(∀ x∈l,x<U.length/\U.getD x false=true)->I (l.foldl s v)
 | [],_,hI,_=>hI
 | x::l,v,hI,hl=>zsl h l _ (h.nx v x hI (hl x yip).1 (hl x yip).2) fun y hy=>hl y (ygk _ hy)
theorem zwi{U:List Bool}{L:List GArc}{N:Nat}(hU:U.length=N)(hL:∀ x∈L,0<=x.t/\x.t<(N:Int)):∀ x∈tgL U L,x<U.length/\U.getD x false=true:=by intro x hx;obtain⟨h1,h2⟩:=yh0.1 hx;obtain⟨y,hy,rfl⟩:=yf6.1 h1;have:=hL y hy;exact⟨by unfold tT;omega,h2⟩
theorem zh4{α : Type}{p : α -> Bool}{x : α}:∀ l:List α,x∈l.takeWhile p->p x=true
 | [],h=>by cases h
 | y::l,h=>by
  rw[List.takeWhile_cons]at h;split at h
  ·rename_i hp;rcases yf4.1 h with rfl|h
   ·exact hp
   ·exact zh4 l h
  ·cases h
theorem zjw{F:List GArc}{l:Int}{x:GArc}(h:x∈stpL F l):x∈F/\x.l=l:=by unfold stpL at h;have h1:=(List.takeWhile_sublist _).subset h;refine⟨(List.dropWhile_sublist _).subset h1,?_⟩;exact of_decide_eq_true (zh4 (p:=fun x:GArc=>decide (x.l=l)) _ h)
theorem zpe{A:GAuto}{N:Nat}(hA:CtrOk A N){U:List Bool}(hU:U.length=N){size:Nat}{gl:PV}{cc:Bool}{f:FuncId}{caps:List AV}{I:Sv->Prop}{s:Sv->Nat->Sv}(h:Vtr size gl cc f caps I s U){q:Nat}(hq:q<N)(l:Int){v:Sv}(hI:I v) :
  HSp P F.aj [.p (enc (pth A U)),.p (.int .i64 q),.p (.int .i64 l),.fn f caps] (hpZ size gl v cc) (.tup []) (hpZ size gl ((tgS A U q l).foldl s v) cc):=by
 have hN:=hA.N1;have hal:=hA.al;have hst:=zsm A N q l hA.inN hA.fs hq (by omega) (by omega);have hLm:∀ x∈stpL (zba A.arcs q) l,0<=x.t/\x.t<(N:Int):=fun x hx=>hA.t x (yh0.1 (zjw hx).1).1;have hLl:(stpL (zba A.arcs q) l).length<=2048:=by refine yf7 ((List.takeWhile_sublist _).length_le) (yf7 ((List.dropWhile_sublist _).length_le) (yf7 (yh3 _ _) hal))
 have htg:tgS A U q l=tgL U (stpL (zba A.arcs q) l):=rfl;rw[htg];generalize stpL (zba A.arcs q) l=L at *
 have hcs:=zik (ids:=[((4,0),4)]) h.ok;refine HSp.of_mr c.aj (by simp) (zfq _ _ _ _) rfl ?_ fun A0 hA0=>MR.of_vm ?_
 ·show(true&&hpOk ks7 (hpZ size gl _ cc))=true;rw[zbn];rfl
 simp[g.aj,za5,hpZ];refine zaa hst (by simp[pth]) ?_;simp[-zc1];have hf2:=fun v:Sv=>zhf v.m v.x.f;have hf3:=fun v:Sv=>zf3 v.d cc;have hf4:=fun v:Sv=>zhg v.m v.x.f;refine zaj (S:=fun k:Nat=>toS A U (.fn f caps) L (hpZ size gl ((tgL U (L.take k)).foldl s v) cc) k) (I:=fun k=>k<=L.length) (m:=fun k=>L.length - k) 0 (Weak.toF [3,4,14,15,16] ks7 [((4,0),4)] ?_) (yg4 _) ?_
 ·simp[toS,hpZ,tgL];exact⟨⟨hf4 v,fun x hx=>yfp.1 (hf2 v) x hx,fun x hx=>yfp.1 (hf3 v) x hx⟩,hcs⟩
 intro k hk R hn hr hx;have e1:=i64s k;have hI2:=zsl h (tgL U (L.take k)) v hI (zwi hU fun x hx=>hLm x (ygb hx));by_cases hlt:k<L.length
 ·have hs:=z0x U L hlt;have hm:=hLm _ (yfi hlt);obtain⟨t,ht⟩:∃ t:Nat,L[k].t=(t:Int):=⟨L[k].t.toNat,by omega⟩;have etT:tT L[k]=t:=by unfold tT;omega
  have htU:t<U.length:=by omega
  have gU:U.getD t false=U[t]:=by rw[yfj,yfm htU];rfl
  rw[etT,gU]at hs;have hend:∀ st',Weak st' (toS A U (.fn f caps) L (hpZ size gl ((tgL U (L.take (k+1))).foldl s v) cc) (k+1))->R .normal st':=fun st' hh=>hn (k+1) st' hh (by omega) (by omega);rw[hs,yh5]at hend;generalize (tgL U (L.take k)).foldl s v=v1 at *
  simp[-zc1,g.oj,toS,hpZ,hlt];refine zad hlt ?_;simp[-zc1,ht,pth];refine zad htU ?_;cases hb:U[t]with
  | false =>
   rw[hb]at hend;simp only[yfl,yf9,List.foldl_nil]at hend;simp[e1];refine hend _ (Weak.toF [3,4,14,15,16] ks7 [((4,0),4)] ?_);simp[toS,hpZ,pth];exact⟨⟨hf4 v1,fun x hx=>yfp.1 (hf2 v1) x hx,fun x hx=>yfp.1 (hf3 v1) x hx⟩,hcs⟩
  | true =>
   rw[hb]at hend;simp only[yf2,yi7,List.foldl_nil]at hend;simp[-zc1,ht];refine z3p h hI2 htU (by rw[gU,hb]) ?_ fun c'=>?_
   ·simp[zbb,St.site,look,hpZ]
   simp[e1];refine hend _ (Weak.toF [3,4,14,15,16] ks7 [((4,0),4)] ?_);simp[toS,hpZ,pth];exact⟨⟨hf4 _,fun x hx=>yfp.1 (hf2 _) x hx,fun x hx=>yfp.1 (hf3 _) x hx⟩,hcs⟩
 ·have:k=L.length:=by omega
  subst this;rw[yfs];simp[g.oj,toS,hpZ];refine hx _ _ ?_;simp;refine⟨.inr rfl,_,Weak.refl _,[],rfl,rfl,?_⟩;simp[zbb,St.site,look]
end Go.Ab
namespace Go.Ab
def nod(N a b:Nat)(d:Bool):Nat:=(a*N+b)*2+(if d=true\/a≠b then 1 else 0)
theorem zxv{N a b:Nat}{d:Bool}(ha:a<N)(hb:b<N):nod N a b d<2*N*N:=by
 unfold nod;have:a*N+b+1<=N*N:=by have:=yg7 N (yke ha);rw[ygt]at this;omega
 rw[yfv];split<;>omega
section
variable (T:Nat->Nat->List Nat) (N:Nat)
def nx2(k l:Nat):List Nat:=(T (k / 2 / N) l).flatMap fun a=>(T (k / 2 % N) l).map fun b=>nod N a b (k % 2 == 1)
def gl2(E:Nat->Bool)(k:Nat):Bool:=k % 2 == 1&&E (k / 2 / N)&&E (k / 2 % N)
def bg2(B:Nat->Bool):List Nat:=(List.range N).flatMap fun a=>(List.range N).flatMap fun b=>if B a=true/\B b=true then[nod N a b false]else[]
def tw2(B E:Nat->Bool)(sy:Nat):Option (List Int):=sx (gl2 N E) (nx2 T N) sy (2*N*N) (bg2 N B)
def nx3(k l:Nat):List Nat:=(T (k / N / N) l).flatMap fun x=>(T (k / N % N) l).flatMap fun y=>(T (k % N) l).map fun z=>(x*N+y)*N+z
def th3(a b sy:Nat):Option (List Int):=sx (fun k=>decide (k=(a*N+b)*N+b)) (nx3 T N) sy (N*N*N) [(a*N+a)*N+b]
end
structure TOk2 (T:Nat->Nat->List Nat) (N:Nat) (U:Nat->Bool):Prop where
 t:∀ q l,∀ x∈T q l,x<N/\U x=true
theorem z6t{N:Nat}{B:Nat->Bool}{k:Nat}:k∈bg2 N B ↔ ∃ a b,a<N/\b<N/\B a=true/\B b=true/\k=nod N a b false:=by
 unfold bg2;simp only[yg3,ygy];constructor
 ·rintro⟨a,ha,b,hb,h⟩;split at h
  ·rename_i hB;exact⟨a,b,ha,hb,hB.1,hB.2,ygj.1 h⟩
  ·cases h
 ·rintro⟨a,b,ha,hb,h1,h2,rfl⟩;exact⟨a,ha,b,hb,by rw[yf1 ⟨h1,h2⟩];exact ygj.2 rfl⟩
theorem z6s{T:Nat->Nat->List Nat}{N k l m:Nat}:m∈nx2 T N k l ↔ ∃ a b,a∈T (k / 2 / N) l/\b∈T (k / 2 % N) l/\m=nod N a b (k % 2 == 1):=by
 unfold nx2;simp only[yg3,yf6];constructor
 ·rintro⟨a,ha,b,hb,rfl⟩;exact⟨a,b,ha,hb,rfl⟩
 ·rintro⟨a,b,ha,hb,rfl⟩;exact⟨a,ha,b,hb,rfl⟩
theorem z90{T:Nat->Nat->List Nat}{N:Nat}{U:Nat->Bool}(h:TOk2 T N U)(m l:Nat):∀ k∈nx2 T N m l,k<2*N*N:=by intro k hk;obtain⟨a,b,ha,hb,rfl⟩:=z6s.1 hk;exact zxv (h.t _ _ _ ha).1 (h.t _ _ _ hb).1
theorem ybi{N:Nat}{B:Nat->Bool}:∀ k∈bg2 N B,k<2*N*N:=by intro k hk;obtain⟨a,b,ha,hb,_,_,rfl⟩:=z6t.1 hk;exact zxv ha hb
theorem znk{N x y z:Nat}(hx:x<N)(hy:y<N)(hz:z<N):(x*N+y)*N+z<N*N*N:=by
 have h1:x*N+y+1<=N*N:=by have:=yg7 N (yke hx);rw[ygt]at this;omega
 have h2:=yg7 N h1;rw[ygf,Nat.one_mul]at h2;omega
theorem z6r{T:Nat->Nat->List Nat}{N k l m:Nat}:m∈nx3 T N k l ↔ ∃ x y z,x∈T (k / N / N) l/\y∈T (k / N % N) l/\z∈T (k % N) l/\m=(x*N+y)*N+z:=by
 unfold nx3;simp only[yg3,yf6];constructor
 ·rintro⟨x,hx,y,hy,z,hz,rfl⟩;exact⟨x,y,z,hx,hy,hz,rfl⟩
 ·rintro⟨x,y,z,hx,hy,hz,rfl⟩;exact⟨x,hx,y,hy,z,hz,rfl⟩
theorem z9z{T:Nat->Nat->List Nat}{N:Nat}{U:Nat->Bool}(h:TOk2 T N U)(m l:Nat):∀ k∈nx3 T N m l,k<N*N*N:=by intro k hk;obtain⟨x,y,z,hx,hy,hz,rfl⟩:=z6r.1 hk;exact znk (h.t _ _ _ hx).1 (h.t _ _ _ hy).1 (h.t _ _ _ hz).1
structure Iso (T T':Nat->Nat->List Nat) (N N':Nat) (U U':Nat->Bool) (σ : Nat->Nat):Prop where
 ok:TOk2 T N U
 ok':TOk2 T' N' U'
 lt:∀ a,a<N->U a=true -> σ a<N'/\U' (σ a)=true
 inj:∀ a b,a<N->b<N->U a=true->U b=true -> σ a = σ b->a=b
 sur:∀ x,x<N'->U' x=true->∃ a,a<N/\U a=true /\ σ a=x
 tt:∀ a l,a<N->U a=true->T' (σ a) l=(T a l).map σ
def R2(N N':Nat)(U:Nat->Bool)(σ : Nat->Nat)(k k':Nat):Prop:=∃ a b d,a<N/\b<N/\U a=true/\U b=true/\k=nod N a b d/\k'=nod N' (σ a) (σ b) d
def R3(N N':Nat)(U:Nat->Bool)(σ : Nat->Nat)(k k':Nat):Prop:=∃ x y z,x<N/\y<N/\z<N/\U x=true/\U y=true/\U z=true/\k=(x*N+y)*N+z/\k'=(σ x*N' + σ y)*N' + σ z
def slf(q:Nat)(s:Nat):Bool:=decide (s=q)
def lpG(T:Nat->Nat->List Nat)(N:Nat)(U:Nat->Bool)(sy:Nat):List Nat->Option (Nat × List Int)
 | []=>none
 | q::r=>match tw2 T N (fun s=>U s&&slf q s) (slf q) sy with
  | some w=>some (q,w)
  | none=>lpG T N U sy r
def stI(T:Nat->Nat->List Nat)(N:Nat)(U:Nat->Bool)(sy a:Nat):List Nat->Option (Nat × List Int)
 | []=>none
 | b::r=>if a=b\/U a=false\/U b=false then stI T N U sy a r else match th3 T N a b sy with
  | some w=>some (b,w)
  | none=>stI T N U sy a r
def stO(T:Nat->Nat->List Nat)(N:Nat)(U:Nat->Bool)(sy:Nat):List Nat->Option (Nat × Nat × List Int)
 | []=>none
 | a::r=>match stI T N U sy a (List.range N)with
  | some (b,w)=>some (a,b,w)
  | none=>stO T N U sy r
def grw(T:Nat->Nat->List Nat)(N:Nat)(U B E:Nat->Bool)(sy:Nat)(g0 g1 g2 g3:Int):Int :=
 if (tw2 T N (fun s=>U s&&B s) E sy).isSome=false then g0
 else if (lpG T N U sy (List.range N)).isSome=true then g3
 else if (stO T N U sy (List.range N)).isSome=true then g2 else g1
end Go.Ab
namespace Go.Ab
open Enc (enc)
attribute [local simp] zai Opd.slots
theorem Weak.kill(st:St)(s g:Nat):Weak st (st.kill s g):=fun _ Z _ _ h =>
 ⟨Z,⟨fun t=>(h.slots t).mono (ZLe.kill Z st s g),h.defers,h.size,h.heap.kill s g⟩,PinLe.of_zle (ZLe.kill Z st s g)⟩
theorem zxu{N a b:Nat}{d:Bool}(hN:N<=64)(ha:a<N)(hb:b<N):Sp P F.bg [.int .i64 a,.int .i64 b,.bool d,.ref (.int .i64 N)] (.pure (.int .i64 (nod N a b d:Nat))):=by
 have h1:a*N+b+1<=N*N:=by have:=yg7 N (yke ha);rw[ygt]at this;omega
 have h2:N*N<=64*64:=yfz hN hN;have hX:((a:Int)*N)=((a*N:Nat):Int):=by simp
 have e1:IntKind.i64.wrap ((a:Int)*N)=(a:Int)*N:=i64w (by omega) (by omega);have e2:IntKind.i64.wrap ((a:Int)*N+b)=(a:Int)*N+b:=i64w (by omega) (by omega);have e3:IntKind.i64.wrap (((a:Int)*N+b)*2)=((a:Int)*N+b)*2:=i64w (by omega) (by omega);have e4:IntKind.i64.wrap (((a:Int)*N+b)*2+1)=((a:Int)*N+b)*2+1:=i64w (by omega) (by omega);have en:((nod N a b d:Nat):Int)=((a:Int)*N+b)*2+(if d=true\/a≠b then 1 else 0):=by unfold nod;rw[hX];split<;>simp
 rw[en];refine Sp.of_vmW c.bg (by simp) (Weak.openRef (t:=3) rfl rfl) ?_;cases d with
 | true =>
  simp[g.bg,e1,e2,e3,e4]
 | false =>
  by_cases hab:a=b
  ·subst hab;simp[g.bg,e1,e2,e3,e4]
  ·have:¬ (a:Int)=b:=by omega
   simp[g.bg,e1,e2,e3,e4,hab,this]
theorem zt2{N:Nat}(hN:N<=64){en:PV}{E:Nat->Bool}(he:∀ q,q<N->FnSp en [.int .i64 (q:Nat)] (.bool (E q))){k:Nat}(hk:k<2*N*N):FnSp (.fn F.an [.ref en,.ref (.int .i64 N)]) [.int .i64 (k:Nat)] (.bool (gl2 N E k)):=by
 have h0:0<N:=by
  rcases yha N with h|h
  ·subst h;simp at hk
  ·exact h
 have ha:k / 2 / N<N:=by rw[yhb];refine Nat.div_lt_of_lt_mul ?_;rw[yfv];rw[yfv]at hk;exact hk
 have hb:k / 2 % N<N:=ygq _ h0;have h1:=he _ ha;have h2:=he _ hb;have hk2:k<=8192:=by have:2*N*N<=2*64*64:=yfz (yh1 2 hN) hN;omega
 show Sp P F.an [.int .i64 (k:Nat),.ref en,.ref (.int .i64 N)] (.pure (.bool (gl2 N E k)));have hE:gl2 N E k=(k % 2 == 1&&E (k / 2 / N)&&E (k / 2 % N)):=rfl;rw[hE];generalize E (k / 2 / N)=x at *
 generalize E (k / 2 % N)=y at *
 have t1:(k:Int).tmod 2=((k % 2:Nat):Int):=by simp[Int.tmod_eq_emod]
 have e1:IntKind.i64.wrap ((k:Int) / 2)=((k / 2:Nat):Int):=by rw[i64w (by omega) (by omega)];simp
 have q:∀ A:Nat,A<N->IntKind.i64.wrap (A:Int)=(A:Int):=fun A h=>i64w (by omega) (by omega);have e2:IntKind.i64.wrap (((k / 2:Nat):Int) / (N:Int))=((k / 2 / N:Nat):Int):=by rw[<- Int.natCast_ediv];exact q _ ha
 have e3:((k / 2:Nat):Int).tmod N=((k / 2 % N:Nat):Int):=by rw[yj1 (by omega),<- Int.natCast_emod]
 generalize k / 2 / N=A at *
 generalize k / 2 % N=B at *
 generalize k / 2=K2 at *
 refine Sp.of_vmW c.an (by simp) ((Weak.openRef (t:=1) rfl rfl).trans (Weak.openRef (t:=2) rfl rfl)) ?_;have hN0:¬ N=0:=by omega
 rcases Nat.mod_two_eq_zero_or_one k with hm|hm
 ·rw[hm]at t1 ⊢;simp at t1;cases en with
  | fn f caps=>simp[g.an,t1]
  | bm f v=>simp[g.an,t1]
  | _=>exact h1.elim
 ·rw[hm]at t1 ⊢;simp at t1;cases en with
  | fn f caps =>
   simp[g.an,t1,e1,e2,hN0];refine zaa (args:=.int .i64 A::caps) h1 (zru _ (.int .i64 A::caps)) ?_;cases x with
   | false=>simp
   | true =>
    simp[e1,e3,hN0];refine zaa (args:=.int .i64 B::caps) h2 (zru _ (.int .i64 B::caps)) ?_;simp
  | bm f v =>
   simp[g.an,t1,e1,e2,hN0];refine zaa (args:=[v,.int .i64 A]) h1 (zru _ [v,.int .i64 A]) ?_;cases x with
   | false=>simp
   | true =>
    simp[e1,e3,hN0];refine zaa (args:=[v,.int .i64 B]) h2 (zru _ [v,.int .i64 B]) ?_;simp
  | _=>exact h1.elim
def nodF(N:Nat):PV:=.fn F.bg [.ref (.int .i64 N)]
structure Vin (size d:Nat) (v:Sv):Prop where
 sl:v.x.s.length=size
 us:us v.x.s+v.x.f.length<=size
 d:v.d=d
theorem zq1{size d:Nat}{v:Sv}(goal:Nat->Bool)(n:Nat)(h:Vin size d v):Vin size d (v.vis goal n):=by
 refine⟨?_,?_,by rw[zsx];exact h.d⟩
 ·rw[znq,zv6];exact h.sl
 ·rw[znq,z30];exact h.us
theorem zkb{size d:Nat}(goal:Nat->Bool):∀ (l:List Nat) {v:Sv},Vin size d v->Vin size d (v.vs goal l)
 | [],_,h=>h
 | n::l,_,h=>zkb goal l (zq1 goal n h)
theorem z31(d:Nat):(visO d true)[d]?=some (some ⟨1,[visV]⟩):=by unfold visO;rw[yhg (by simp)];simp
def z3n(d N a k:Nat):List AV:=[.ptr 900006 d 0 0,.cp (nodF N) 1 0,.cp (.int .i64 (a:Nat)) 1 0,.cp (.int .i64 (k:Nat)) 1 0]
theorem vtr3{N:Nat}(hN:N<=64){U:List Bool}(hU:U.length=N){gl:PV}{goal:Nat->Bool}(hg:∀ n,n<2*N*N->FnSp gl [.int .i64 (n:Nat)] (.bool (goal n))){d a k:Nat}(ha:a<N)(hk:k<2*N*N) :
  Vtr (2*N*N) gl true F.jm (z3n d N a k) (Vin (2*N*N) d) (fun v b=>v.vis goal (nod N a b (k % 2 == 1))) U where
 ok:=rfl
 nu:=rfl
 nx v x h _ _:=zq1 goal _ h
 sp v b h hb _:=by
  have hsz:2*N*N<=2*64*64:=yfz (yh1 2 hN) hN;have hbN:b<N:=by omega
  have hnd:=zxu (d:=k % 2 == 1) hN ha hbN;have hlt:=zxv (d:=k % 2 == 1) ha hbN;have hvs:=zka hg h.sl (by have:=h.us;omega) hlt true;have hvd:=h.d;subst hvd;have hv:=z31 v.d;have t1:(k:Int).tmod 2=((k % 2:Nat):Int):=by simp[Int.tmod_eq_emod]
  refine HSp.of_mr c.jm (by simp[z3n]) (zfq _ _ _ _) rfl ?_ fun A0 hA0=>MR.of_vm ?_
  ·show(true&&hpOk ks7 (hpZ (2*N*N) gl _ true))=true;rw[zbn];rfl
  have td:decide ((k:Int).tmod 2=1)=(k % 2 == 1):=by rw[t1,yj6,decide_eq_true_eq,beq_iff_eq];omega
  simp[g.jm,za5,z3n,hpZ,hv,nodF,td];refine zaf hnd ?_;simp[visV];refine zb7 hvs (by simp[visC,zb0]) ?_ rfl ?_ ?_
  ·simp[zbb,St.site,look,hpZ]
  ·have h1:=zbn (2*N*N) gl v true;have h2:=zbn (2*N*N) gl (v.vis goal (nod N a b (k % 2 == 1))) true;show(zam ks7 _&&hpOk ks7 (hpZ (2*N*N) gl v true)&&zdi ks7 (.av (.tup []))&&hpOk ks7 (hpZ (2*N*N) gl (v.vis goal (nod N a b (k % 2 == 1))) true))=true;rw[h1,h2];rfl
  simp[visC];refine⟨.inr rfl,_,Weak.refl _,[],rfl,rfl,?_⟩;simp[zbb,St.site,look,hpZ,zcd]
def z3o(A:GAuto)(U:List Bool)(d N:Nat)(l:Int)(k:Nat):List AV:=[.cp (enc (pth A U)) 9 0,.cp (.int .i64 (k:Nat)) 1 0,.cp (.int .i64 (N:Nat)) 1 0,.cp (.int .i64 l) 1 0,.ptr 900006 d 0 0,.cp (nodF N) 1 0]
theorem vtr2{A:GAuto}{N:Nat}(hA:CtrOk A N){U:List Bool}(hU:U.length=N){gl:PV}{goal:Nat->Bool}(hg:∀ n,n<2*N*N->FnSp gl [.int .i64 (n:Nat)] (.bool (goal n))){d k:Nat}(hk:k<2*N*N)(l:Int) :
  Vtr (2*N*N) gl true F.jl (z3o A U d N l k) (Vin (2*N*N) d) (fun v a=>(tgS A U (k / 2 % N) l).foldl (fun v b=>v.vis goal (nod N a b (k % 2 == 1))) v) U where
 ok:=rfl
 nu:=rfl
 nx v a h ha _:=by have:=zkb goal ((tgS A U (k / 2 % N) l).map fun b=>nod N a b (k % 2 == 1)) h;unfold Sv.vs at this;rw[List.foldl_map]at this;exact this
 sp v a h ha _:=by
  have hN:=hA.N1;have h0:0<N:=by omega
  have haN:a<N:=by omega
  have hqN:k / 2 % N<N:=ygq _ h0;have hto:=zpe hA hU (vtr3 hN hU hg haN hk (d:=d)) hqN l h;have hvd:=h.d;have hk2:k<=8192:=by have:2*N*N<=2*64*64:=yfz (yh1 2 hN) hN;omega
  have e1:IntKind.i64.wrap ((k:Int) / 2)=((k / 2:Nat):Int):=by rw[i64w (by omega) (by omega)];simp
  have e3:((k / 2:Nat):Int).tmod N=((k / 2 % N:Nat):Int):=by rw[yj1 (by omega),<- Int.natCast_emod]
  generalize k / 2 % N=B at *
  generalize k / 2=K2 at *
  have hN0:¬ N=0:=by omega
  generalize hv2:(tgS A U B l).foldl (fun v b=>v.vis goal (nod N a b (k % 2 == 1))) v=v2 at *
  refine HSp.of_mr c.jl (by simp[z3o]) (zfq _ _ _ _) rfl ?_ fun A0 hA0=>?_
  ·show(true&&hpOk ks7 (hpZ (2*N*N) gl _ true))=true;rw[zbn];rfl
  unfold g.jl;refine MR.gseq ?_;simp[za5,z3o,hpZ];have hf2:=zhf v.m v.x.f;have hf3:=zf3 v.d true;have hf4:=zhg v.m v.x.f
  refine MR.weak (st1:=⟨[(1,.cp (enc (pth A U)) 9 0),(2,.cp (.int .i64 (k:Nat)) 1 0),(3,.cp (.int .i64 (N:Nat)) 1 0),(4,.cp (.int .i64 l) 1 0),(5,.ptr 900006 d 0 0),(6,.cp (nodF N) 1 0),(7,.cp (.int .i64 a) 1 0)],hpZ (2*N*N) gl v true++[(DEAD,[none])]⟩)
   ((Weak.freeze (t:=7) rfl).trans ((Weak.openRef (t:=7) rfl rfl).trans (Weak.toF [1,2,3,4,5,6,7] ks7 [] ?_))) ?_
  ·simp[hpZ,killAll,zbe];exact⟨hf4,fun x hx=>yfp.1 hf2 x hx,fun x hx=>yfp.1 hf3 x hx⟩
  refine MR.of_vm ?_;simp[hpZ,pth,e1,e3,hN0];refine zb7 hto (by simp[z3n,zb0]) ?_ rfl ?_ ?_
  ·simp[zbb,St.site,look,hpZ]
  ·have h1:=zbn (2*N*N) gl v true;have h2:=zbn (2*N*N) gl v2 true;show(zam ks7 _&&hpOk ks7 (hpZ (2*N*N) gl v true)&&zdi ks7 (.av (.tup []))&&hpOk ks7 (hpZ (2*N*N) gl v2 true))=true;rw[h1,h2];rfl
  simp;refine⟨.inr rfl,_,Weak.refl _,[],rfl,rfl,?_⟩;simp[zbb,St.site,look,hpZ,zcd]
def tgT(A:GAuto)(U:List Bool)(q l:Nat):List Nat:=tgS A U q (l:Int)
theorem z2m(goal:Nat->Bool)(T:Nat->Nat->List Nat)(N k l:Nat)(v:Sv):(T (k / 2 / N) l).foldl (fun v a=>(T (k / 2 % N) l).foldl (fun v b=>v.vis goal (nod N a b (k % 2 == 1))) v) v=v.vs goal (nx2 T N k l):=by
 unfold nx2 Sv.vs;rw[List.foldl_flatMap]
 congr 1
 funext v a;rw[List.foldl_map]
def Sv.up(v:Sv):Sv:=⟨v.x,v.m,v.d+1⟩
theorem zng{size:Nat}{gl:PV}{v:Sv}{sl:List (Nat × AV)}{r:List Site}:zbb ((⟨sl,hpZ size gl v true++r⟩:St).kill 900006 v.d) (hpZ size gl v.up false) (hpZ size gl v.up false):=by
 have h:(visO v.d true).set v.d none=visO (v.d+1) false:=by unfold visO;rw[yk6 _ _ (by simp)];simp[yj5]
 simp[zbb,St.kill,St.site,look,hpZ,Sv.up,zbe,h]
theorem zso(d:Nat):(visO d false).length=d:=by simp[visO]
theorem zy4{σ : Sg}(h:∀ g,σ 900003 g=(900003,g))(m:Nat)(f:List Nat):sub σ (fnd m f)=fnd m f:=by cases f<;>simp[fnd,sub,h]
theorem zy2(σ : Sg)(m:Nat)(f:List Nat):(fob m f).map (Option.map (subO σ))=fob m f:=by
 cases f with
 | nil=>simp[fob]
 | cons n l =>
  have e:=zet σ (natI (n::l));simp only[fob,ygx,List.map_replicate,Option.map_none,yfq,yji,yi0,subO,e]
theorem zsn{σ : Sg}(d:Nat):(visO d false).map (Option.map (subO σ))=visO d false:=by simp[visO]
theorem zsp(d:Nat):visO d false++[some ⟨1,[.fn F.bh visC]⟩]=visO d true:=by simp[visO,visV]
theorem zsq{σ : Sg}(s1 : σ 900000 0=(900000,0))(s2 : σ 900002 0=(900002,0))(s3 : σ 900004 0=(900004,0))(s4 : σ 900005 0=(900005,0)):subL σ visC=visC:=by simp[visC,subL,sub,s1,s2,s3,s4]
theorem zx1{A:GAuto}{N:Nat}(hA:CtrOk A N){U:List Bool}(hU:U.length=N){gl:PV}{goal:Nat->Bool}(hg:∀ n,n<2*N*N->FnSp gl [.int .i64 (n:Nat)] (.bool (goal n))){k:Nat}(hk:k<2*N*N)(l:Nat){v:Sv}(h:Vin (2*N*N) v.d v) :
  HSp P F.fi [.p (.int .i64 k),.p (.int .i64 l),visV,.p (.ref (enc (pth A U))),.p (.ref (.int .i64 N)),.p (.ref (nodF N))] (hpZ (2*N*N) gl v false) (.tup []) (hpZ (2*N*N) gl (v.vs goal (nx2 (tgT A U) N k l)).up false):=by
 have hN:=hA.N1;have h0:0<N:=by
  rcases yha N with h|h
  ·subst h;simp at hk
  ·exact h
 have haN:k / 2 / N<N:=by rw[yhb];refine Nat.div_lt_of_lt_mul ?_;rw[yfv];rw[yfv]at hk;exact hk
 have hto:=zpe hA hU (vtr2 hA hU hg hk (l:Int) (d:=v.d)) haN (l:Int) h;have hfo:=z2m goal (tgT A U) N k l v;have hd2:=zq9 goal (nx2 (tgT A U) N k l) v;rw[<- hfo]at hd2 ⊢
 change HSp P F.aj _ _ _ (hpZ (2*N*N) gl ((tgT A U (k / 2 / N) l).foldl (fun v a=>(tgT A U (k / 2 % N) l).foldl (fun v b=>v.vis goal (nod N a b (k % 2 == 1))) v) v) true)at hto
 clear hfo;generalize (tgT A U (k / 2 / N) l).foldl (fun v a=>(tgT A U (k / 2 % N) l).foldl (fun v b=>v.vis goal (nod N a b (k % 2 == 1))) v) v=v2 at *
 have hk2:k<=8192:=by have:2*N*N<=2*64*64:=yfz (yh1 2 hN) hN;omega
 have e1:IntKind.i64.wrap ((k:Int) / 2)=((k / 2:Nat):Int):=by rw[i64w (by omega) (by omega)];simp
 have q:∀ A:Nat,A<N->IntKind.i64.wrap (A:Int)=(A:Int):=fun A h=>i64w (by omega) (by omega);have e2:IntKind.i64.wrap (((k / 2:Nat):Int) / (N:Int))=((k / 2 / N:Nat):Int):=by rw[<- Int.natCast_ediv];exact q _ haN
 generalize k / 2 / N=B at *
 generalize k / 2=K2 at *
 have hN0:¬ N=0:=by omega
 have hf2:=zhf v.m v.x.f;have hf4:=zhg v.m v.x.f;refine HSp.of_mr c.fi (by simp) (zfq _ _ _ _) rfl ?_ fun A0 hA0=>?_
 ·show(true&&hpOk ks7 (hpZ (2*N*N) gl _ false))=true;rw[zbn];rfl
 unfold g.fi;refine MR.gseq ?_;simp[za5,hpZ,visV]
 refine MR.weak (st1:=⟨[(3,.cp (enc (pth A U)) 9 0),(4,.cp (.int .i64 (N:Nat)) 1 0),(5,.cp (nodF N) 1 0),(6,.cp (.int .i64 k) 1 0),(7,.cp (.int .i64 l) 1 0),(8,.ptr 900006 v.d 0 0)],hpZ (2*N*N) gl v true++[(DEAD,[none])]⟩)
  ((Weak.freeze (t:=6) rfl).trans ((Weak.freeze (t:=7) rfl).trans ((Weak.openRef (t:=3) rfl rfl).trans ((Weak.openRef (t:=4) rfl rfl).trans ((Weak.openRef (t:=5) rfl rfl).trans ((Weak.openRef (t:=6) rfl rfl).trans ((Weak.openRef (t:=7) rfl rfl).trans
   (zfj [3,4,5,6,7,8] [(900000,[(900000,0)]),(900001,[(900001,0)]),(900002,[(900002,0)]),(900003,[(900003,0)]),(900004,[(900004,0)]),(900005,[(900005,0)]),(900006,[(900006,0),(8,0)])] ?_
    (fun σ => σ 900000 0=(900000,0) /\ σ 900001 0=(900001,0) /\ σ 900002 0=(900002,0) /\ σ 8 0=(900006,v.d) /\ σ 900004 0=(900004,0) /\ σ 900005 0=(900005,0)/\∀ g,σ 900003 g=(900003,g)) ?_ ?_)))))))) ?_
 ·simp[ze4,zl6,zdy,PINB,DEAD,zct,St.put,killAll,St.kill,zbe]
 ·simp[sgP,zfr,zdm,St.site,look,St.put,killAll,St.kill,zbe,zso]
 ·rintro σ ⟨s1,s2,s3,s4,s5,s6,s7⟩;have e:=zet σ v.x.s;simp[hpP,catS,sub,subO,subL,St.get,look,St.site,hpZ,St.put,killAll,St.kill,zbe,nodF,s2,s4,e,zy4 s7,zy2,zsn,zsq s1 s3 s5 s6,zsp]
 refine MR.of_vm ?_;simp[hpZ,pth,e1,e2,hN0];refine zb7 hto (by simp[z3o,zb0]) ?_ rfl ?_ ?_
 ·simp[zbb,St.site,look,hpZ]
 ·have h1:=zbn (2*N*N) gl v true;have h2:=zbn (2*N*N) gl v2 true;show(zam ks7 _&&hpOk ks7 (hpZ (2*N*N) gl v true)&&zdi ks7 (.av (.tup []))&&hpOk ks7 (hpZ (2*N*N) gl v2 true))=true;rw[h1,h2];rfl
 simp;refine⟨.inr rfl,_,Weak.kill _ 900006 v2.d,[],rfl,rfl,?_⟩;exact zng
instance:Enc Grp:=⟨fun g=>.agg [.sl (ens g.1),.sl (ens (natI g.2))],2,by decide,fun _=>rfl⟩
@[simp] theorem yec(g:Grp):enc g=.agg [.sl (ens g.1),.sl (ens (natI g.2))]:=rfl
@[simp] theorem yal:Enc.sz Grp=2:=rfl
structure NxG (size sy:Nat) (gl:PV) (goal:Nat->Bool) (nxt:Nat->Nat->List Nat) (fN:FuncId) (cN:List PV):Prop where
 sz:size<=100000
 sy6:sy<=64
 gg:∀ n,n<size->FnSp gl [.int .i64 (n:Nat)] (.bool (goal n))
 gs:gl.sz=1
 nx:∀ (v:Sv) (k l:Nat),Vin size v.d v->k<size->1<=l->l<=sy->HSp P fN ([.p (.int .i64 k),.p (.int .i64 l),visV]++cN.map .p) (hpZ size gl v false) (.tup []) (hpZ size gl (v.vs goal (nxt k l)).up false)
 lt:∀ k l,∀ m∈nxt k l,m<size
def vNx(goal:Nat->Bool)(nxt:Nat->Nat->List Nat)(l:Nat)(v:Sv)(g:List Nat):Sv:=g.foldl (fun v n=>(v.vs goal (nxt n l)).up) v
theorem z8y(goal:Nat->Bool)(nxt:Nat->Nat->List Nat)(l:Nat):∀ (g:List Nat) (v:Sv),(vNx goal nxt l v g).x=Sx.nx goal nxt l v.x g
 | [],_=>rfl
 | n::g,v=>by have:=z8y goal nxt l g (v.vs goal (nxt n l)).up;rw[show(v.vs goal (nxt n l)).up.x=v.x.vs goal (nxt n l) from zq8 goal _ v]at this;exact this
theorem z8x{size d:Nat}{v:Sv}(h:Vin size d v):Vin size (d+1) v.up:=⟨h.sl,h.us,by show v.d+1=d+1;rw[h.d]⟩
theorem zq3{size:Nat}(goal:Nat->Bool)(nxt:Nat->Nat->List Nat)(l:Nat):∀ (g:List Nat) (v:Sv),Vin size v.d v->Vin size (vNx goal nxt l v g).d (vNx goal nxt l v g)
 | [],_,h=>h
 | n::g,v,h=>by have h1:=z8x (zkb goal (nxt n l) h);have h2:Vin size (v.vs goal (nxt n l)).up.d (v.vs goal (nxt n l)).up:=⟨h1.sl,h1.us,rfl⟩;exact zq3 goal nxt l g _ h2
theorem z0p(goal:Nat->Bool)(nxt:Nat->Nat->List Nat)(l:Nat)(v:Sv){g:List Nat}{k:Nat}(h:k<g.length):vNx goal nxt l v (g.take (k+1))=((vNx goal nxt l v (g.take k)).vs goal (nxt g[k] l)).up:=by unfold vNx;rw[yfu h,yh5];rfl
theorem zpr(ks:List Nat):∀ l:List PV,zam ks (l.map .p)=true
 | []=>rfl
 | _::l=>by simp only[yfq,zam,zce,zpr ks l,Bool.and_self]
def qHp(q:List Grp)(G:Grp):List Site:=[(18,[some ⟨2,avs q⟩]),(20,[some ⟨2,[.p (enc G)]⟩]),(DEAD,[none])]
def x2S(sy size:Nat)(gl:PV)(fN:FuncId)(cN:List PV)(q:List Grp)(k:Nat)(G:Grp)(l:Nat)(v:Sv)(j:Nat):St :=
 ⟨[(0,.p (.int .i64 sy)),(3,.p (.fn fN cN)),(13,.ptr 900002 0 0 0),(14,.ptr 900004 0 0 0),(15,visV),(18,.own 18 0 0 q.length),(19,.p (.int .i64 k)),(20,.ptr 20 0 0 0),(21,.p (.int .i64 l)),(58,.p (.sl (ens (natI G.2)))),(59,.p (.int .i64 G.2.length)),(60,.p (.int .i64 j))],
  hpZ size gl v false++qHp q G⟩
theorem zth(l:List Nat){k:Nat}(h:k<l.length):(natI l)[k]'(by simpa[natI]using h)=((l[k]:Nat):Int):=by simp[natI]
theorem zd4(l:List Nat):(natI l).length=l.length:=by simp[natI]
theorem z4y{size sy:Nat}{gl:PV}{goal:Nat->Bool}{nxt:Nat->Nat->List Nat}{fN:FuncId}{cN:List PV}(H:NxG size sy gl goal nxt fN cN){q:List Grp}{k:Nat}{G:Grp}(hgl:∀ n∈G.2,n<size)(hg2:G.2.length<=100000){l:Nat}(h1:1<=l)(h2:l<=sy){v:Sv}(hv:Vin size v.d v)
  {Q:Exit->St->Prop} {ks:List Kt} {st:St} (hw:Weak st (x2S sy size gl fN cN q k G l v 0)) (hx:zb6 P 88 Q (zaw 6 ks) 6 (x2S sy size gl fN cN q k G l (vNx goal nxt l v G.2) G.2.length)):vL P 88 Q g.nd ks st:=by
 refine zaj (S:=fun j:Nat=>x2S sy size gl fN cN q k G l (vNx goal nxt l v (G.2.take j)) j) (I:=fun j=>j<=G.2.length) (m:=fun j=>G.2.length - j) 0 (by simpa[vNx]using hw) (Nat.zero_le _) ?_;intro j hj R hn hr hx';have e1:=i64s j;by_cases hlt:j<G.2.length
 ·have hs:=z0p goal nxt l v hlt;have hgj:=zth G.2 hlt;have hji:j<(natI G.2).length:=by rw[zd4];exact hlt
  have hnl:=hgl _ (yfi hlt);have hvj:=zq3 goal nxt l (G.2.take j) v hv;have hnx:=H.nx _ G.2[j] l hvj hnl h1 h2;have hend:∀ st',Weak st' (x2S sy size gl fN cN q k G l (vNx goal nxt l v (G.2.take (j+1))) (j+1))->R .normal st':=fun st' hh=>hn (j+1) st' hh (by omega) (by omega);rw[hs]at hend;generalize vNx goal nxt l v (G.2.take j)=v1 at *
  have hf2:=fun v:Sv=>zhf v.m v.x.f;have hf3:=fun v:Sv=>zf3 v.d false;have hf4:=fun v:Sv=>zhg v.m v.x.f;simp[g.nd,x2S,hpZ,qHp,hlt,zd4];refine zad hji ?_;rw[hgj];refine zb7 hnx (by simp[visV,zb0]) ?_ rfl ?_ ?_
  ·simp[zbb,St.site,look,hpZ]
  ·have q1:=zbn size gl v1 false;have q2:=zbn size gl (v1.vs goal (nxt G.2[j] l)).up false;show(zam ks7 _&&hpOk ks7 (hpZ size gl v1 false)&&zdi ks7 (.av (.tup []))&&hpOk ks7 (hpZ size gl (v1.vs goal (nxt G.2[j] l)).up false))=true;rw[q1,q2];simp only[zam,zpr];rfl
  simp[zcd,e1];refine hend _ (Weak.toF [0,3,13,14,15,18,19,20,21,58,59,60] ks7 [((18,0),18),((20,0),20)] ?_);simp[x2S,hpZ,qHp,visV,visC];exact⟨hf4 _,fun x hx=>yfp.1 (hf2 _) x hx,fun x hx=>yfp.1 (hf3 _) x hx⟩
 ·have:j=G.2.length:=by omega
  subst this;rw[yfs]at *
  simp[g.nd,x2S,hpZ,qHp];refine hx' _ _ ?_;simpa[x2S,hpZ,qHp]using hx
def resS:Option (List Int)->PV
 | some w=>.tup [.sl (ens w),.bool true]
 | none=>.tup [.sl [],.bool false]
def hpL(size:Nat)(gl:PV)(s:List Bool)(m d:Nat):List Site:=[(900000,[some ⟨1,[.own 900001 0 0 size]⟩]),(900001,[some ⟨1,avs s⟩]),(900002,[some ⟨1,[.p .any]⟩]),(900003,List.replicate m none),(900004,[some ⟨1,[.p (.bool false)]⟩]),(900005,[some ⟨1,[.p gl]⟩]),(900006,List.replicate d none)]
structure Xs where
 q:List Grp
 s:List Bool
 m:Nat
 d:Nat
 l:Nat
def x3S(sy size:Nat)(gl:PV)(fN:FuncId)(cN:List PV)(k:Nat)(G:Grp)(x:Xs):St :=
 ⟨[(0,.p (.int .i64 sy)),(3,.p (.fn fN cN)),(13,.ptr 900002 0 0 0),(14,.ptr 900004 0 0 0),(15,visV),(18,.own 18 0 0 x.q.length),(19,.p (.int .i64 k)),(20,.ptr 20 0 0 0),(21,.p (.int .i64 x.l))],
  hpL size gl x.s x.m x.d++qHp x.q G⟩
def sxK(goal:Nat->Bool)(nxt:Nat->Nat->List Nat)(sy n:Nat):Option (List Int) × List Grp × List Bool->Option (List Int)
 | (some v,_,_)=>some v
 | (none,q,s)=>sxQ goal nxt sy n q s
structure Xok (size:Nat) (x:Xs):Prop where
 sl:x.s.length=size
 q:∀ X∈x.q,(∀ n∈X.2,n<size)/\X.1.length<x.q.length/\X.2.length<=size
 us:x.q.length+us x.s<=size+1
theorem zu9(sy:Nat):labs sy=List.range' 1 sy:=by unfold labs;rw[List.range'_eq_map_range];exact ygc fun a _=>Nat.add_comm _ _
theorem z4x{size sy:Nat}{gl:PV}{goal:Nat->Bool}{nxt:Nat->Nat->List Nat}{fN:FuncId}{cN:List PV}(H:NxG size sy gl goal nxt fN cN){k:Nat}{G:Grp}(hG:(∀ n∈G.2,n<size)/\G.2.length<=size){n:Nat}{r0:Option (List Int)}{x0:Xs}(h0:Xok size x0)(hl0:x0.l=1)(hw0:G.1.length<x0.q.length)(hk0:k<x0.q.length)
  (hc0:sxK goal nxt sy n (zno goal nxt G.1 G.2 (List.range' x0.l (sy+1 - x0.l)) (x0.q.drop (k+1)) x0.s)=r0) {Q:Exit->St->Prop} (hQ:∀ s,retP [(10,none),(11,none)] (.pure (resS r0)) .ret s->Q .ret s) {ks:List Kt} {st:St} (hw:Weak st (x3S sy size gl fN cN k G x0))
  (hx:∀ x:Xs,Xok size x->k<x.q.length->us x.s+x.q.length<=us x0.s+x0.q.length->sxQ goal nxt sy n (x.q.drop (k+1)) x.s=r0->zb6 P 88 Q (zaw 4 ks) 4 (x3S sy size gl fN cN k G x)):vL P 88 Q g.ne ks st:=by
 have hsz:=H.sz;have hsy:=H.sy6;refine zaj (S:=fun x=>x3S sy size gl fN cN k G x) (I:=fun x=>Xok size x/\1<=x.l/\x.l<=sy+1/\G.1.length<x.q.length/\k<x.q.length/\sxK goal nxt sy n (zno goal nxt G.1 G.2 (List.range' x.l (sy+1 - x.l)) (x.q.drop (k+1)) x.s)=r0/\us x.s+x.q.length<=us x0.s+x0.q.length) (m:=fun x=>sy+1 - x.l) x0 hw ⟨h0,by omega,by omega,hw0,hk0,hc0,yf8 _⟩ ?_;rintro⟨q,s,m,d,l⟩ ⟨ho,hl1,hl2,hw1,hk1,hc,hu0⟩ R hn hr hx';simp only at hl1 hl2 hw1 hk1 hc hu0;obtain⟨o1,o2,o3⟩:=ho;simp only at o1 o2 o3;have e1:=i64s l;by_cases hlt:l<=sy
 ·have hrg:List.range' l (sy+1 - l)=l::List.range' (l+1) (sy+1 - (l+1)):=by rw[show sy+1 - l=(sy+1 - (l+1))+1 by omega,yix]
  rw[hrg]at hc;have hv0:Vin size d ⟨⟨s,[],false⟩,m,d⟩:=⟨o1,by simp only[yi4,ygl];have:=z48 s;omega,rfl⟩;simp[g.ne,x3S,hpL,qHp,hlt];refine z4y H (v:=⟨⟨s,[],false⟩,m,d⟩) (q:=q) (k:=k) (G:=G) hG.1 (by omega) hl1 hlt hv0 (Weak.toF [0,3,13,14,15,18,19,20,21,58,59,60] ks7 [((18,0),18),((20,0),20)] ?_) ?_
  ·simp[x2S,hpZ,qHp,visV,visC,fnd,fob,visO,zd4,zce]
  have hvx:=z8y goal nxt l G.2 ⟨⟨s,[],false⟩,m,d⟩;have hvin:=zq3 goal nxt l G.2 ⟨⟨s,[],false⟩,m,d⟩ hv0;simp only[zno]at hc;have hus:=z41 (goal:=goal) (G.2.flatMap fun n=>nxt n l) ⟨s,[],false⟩;have hrr:=vs_r (goal:=goal) (G.2.flatMap fun n=>nxt n l) ⟨s,[],false⟩ rfl;have hfl:=vs_f (goal:=goal) (G.2.flatMap fun n=>nxt n l) ⟨s,[],false⟩;rw[<- z9y (goal:=goal) (nxt:=nxt) l G.2]at hus hfl hrr;simp only at hvx;rw[<- hvx]at hc hus hfl hrr;clear hvx;generalize vNx goal nxt l ⟨⟨s,[],false⟩,m,d⟩ G.2=v2 at *
  obtain⟨⟨s2,f2,r2⟩,m2,d2⟩:=v2;obtain⟨i1,i2,_⟩:=hvin;simp only[yi4,ygl]at hc hus hfl hrr i1 i2;have hf2:∀ n∈f2,n<size:=fun n hn=>by
   rcases hfl n hn with h|⟨h,_⟩
   ·cases h
   ·obtain⟨a,_,h⟩:=yg3.1 h;exact H.lt _ _ _ h
  clear hfl;cases f2 with
  | nil =>
   simp only[yf2]at hc;have hr2:r2=false:=hrr;subst hr2;simp[x2S,hpZ,qHp,fnd,fob,visO,e1];refine hn ⟨q,s2,m2,d2,l+1⟩ _ ((Weak.anyCells (s:=900002) (g:=0) (o:=⟨1,[.nil]⟩) [.p .any] rfl rfl (by simp) ⟨.inr ⟨rfl,rfl⟩,trivial⟩).trans (Weak.toF [0,3,13,14,15,18,19,20,21] ks7 [((18,0),18),((20,0),20)] ?_)) ⟨⟨i1,o2,by simp only[yi4,ygl]at hus;simp only;omega⟩,by simp only;omega,by simp only;omega,hw1,hk1,hc,by simp only[yi4,ygl]at hus;simp only;omega⟩ (by simp only;omega);simp[x3S,hpL,qHp,visV,visC,St.setObj]
  | cons a f =>
   simp only[reduceCtorEq,yf9]at hc;simp only[yg2]at hus i2;simp[x2S,hpZ,qHp,fnd,fob,visO];refine⟨fun h=>by omega,fun _=>⟨by omega,by omega,?_⟩⟩;have hwd:avs G.1++[.p (.int .i64 l)]=avs (G.1++[(l:Int)]):=by rw[zd7];rfl
   have hwl:(G.1++[(l:Int)]).length=G.1.length+1:=by simp
   cases r2 with
   | true =>
    simp only[yf2,sxK]at hc;subst hc;simp;rw[hwd];refine hr _ (hQ _ ?_);generalize G.1++[(l:Int)]=W at *
    have htk:W.take (G.1.length+1)=W:=yfw (by omega);simp[resS,hwl,htk]
   | false =>
    simp only[yfl,yf9]at hc;simp[e1];refine⟨by omega,?_⟩;rw[hwd];generalize hW:G.1++[(l:Int)]=W at *
    have htk:W.take (G.1.length+1)=W:=yfw (by omega);have hY:(natI (a::f)).length=f.length+1:=by simp[natI]
    have hY2:(natI (a::f)).take (f.length+1)=natI (a::f):=yfw (by omega);have hok:Xok size ⟨q++[(W,a::f)],s2,m2+1,d2,l+1⟩:=by
     refine⟨i1,fun X hX=>?_,by simp only[ygi,yhe];omega⟩;simp only[ygi,yhe];rcases yfk.1 hX with h|h
     ·obtain⟨u1,u2,u3⟩:=o2 X h;exact⟨u1,by omega,u3⟩
     ·rw[ygj]at h;subst h;exact⟨hf2,by simp only;omega,by simp only[yg2];omega⟩
    have hdr:(q++[(W,a::f)]).drop (k+1)=q.drop (k+1)++[(W,a::f)]:=yis (by omega)
    refine hn ⟨q++[(W,a::f)],s2,m2+1,d2,l+1⟩ _ ((Weak.freezeTo (s:=87) (g:=0) (n:=3) (o:=⟨2,avs q++[.agg [.own 79 0 0 (G.1.length+1),.own 900003 m2 0 (f.length+1)]]⟩) (ens (q++[(W,a::f)])) [(79,0),(900003,m2)] ?_ ?_ ?_ ?_).trans
     ((Weak.anyCells (s:=900002) (g:=0) (o:=⟨1,[.own 900003 m2 0 (f.length+1)]⟩) [.p .any] ?_ rfl (by simp) ⟨.inr ⟨rfl,rfl⟩,trivial⟩).trans (Weak.toF [0,3,13,14,15,18,19,20,21] ks7 [((87,0),18),((20,0),20)] ?_)))
     ⟨hok,by simp only;omega,by simp only;omega,by simp only[ygi,yhe];omega,by simp only[ygi,yhe];omega,by simp only;rw[hdr];exact hc,by simp only[ygi,yhe];omega⟩ (by simp only;omega)
    ·simp[St.obj,St.site,look]
    ·simp[St.obj,St.site,look,hwl,hY,htk,hY2];show _=(q++[(W,a::f)]).map enc;rw[ygx];rfl
    ·simp[St.obj,St.site,look]
    ·simp
    ·simp[St.obj,St.site,look,killAll,zbe,St.kill,St.setObj]
    ·simp[x3S,hpL,qHp,visV,visC,St.setObj,killAll,zbe];exact(yj5 ..).symm
 ·have:l=sy+1:=by omega
  subst this;simp only[yil,List.range'_zero,zno,sxK]at hc;have hfl:¬ ((sy:Int)+1<=sy):=by omega
  simp[g.ne,x3S,hpL,qHp,hfl];refine hx' _ _ ?_;simpa[x3S,hpL,qHp]using hx ⟨q,s,m,d,sy+1⟩ ⟨o1,o2,o3⟩ hk1 hu0 hc
def x4S(sy size:Nat)(gl:PV)(fN:FuncId)(cN:List PV)(k:Nat)(x:Xs):St :=
 ⟨[(0,.p (.int .i64 sy)),(3,.p (.fn fN cN)),(13,.ptr 900002 0 0 0),(14,.ptr 900004 0 0 0),(15,visV),(18,.own 18 0 0 x.q.length),(19,.p (.int .i64 k))],
  hpL size gl x.s x.m x.d++[(18,[some ⟨2,avs x.q⟩]),(DEAD,[none])]⟩
theorem z4w{size sy:Nat}{gl:PV}{goal:Nat->Bool}{nxt:Nat->Nat->List Nat}{fN:FuncId}{cN:List PV}(H:NxG size sy gl goal nxt fN cN){n0:Nat}{r0:Option (List Int)}{x0:Xs}(h0:Xok size x0)(hn0:us x0.s+x0.q.length<n0)(hc0:sxQ goal nxt sy n0 x0.q x0.s=r0)
  {Q:Exit->St->Prop} (hQ:∀ s,retP [(10,none),(11,none)] (.pure (resS r0)) .ret s->Q .ret s) {ks:List Kt} {st:St} (hw:Weak st (x4S sy size gl fN cN 0 x0))
  (hx:r0=none->∀ (k:Nat) (x:Xs),zb6 P 88 Q (zaw 2 ks) 2 (x4S sy size gl fN cN k x)):vL P 88 Q g.l8 ks st:=by
 have hsz:=H.sz;have hsy:=H.sy6;refine zaj (S:=fun y:Nat × Xs=>x4S sy size gl fN cN y.1 y.2) (I:=fun y=>Xok size y.2/\y.1<=y.2.q.length/\∃ n,us y.2.s+(y.2.q.drop y.1).length<n/\sxQ goal nxt sy n (y.2.q.drop y.1) y.2.s=r0) (m:=fun y=>us y.2.s+(y.2.q.length - y.1)) (0,x0) hw ⟨h0,yg4 _,n0,hn0,hc0⟩ ?_;rintro⟨k,⟨q,s,m,d,l⟩⟩ ⟨ho,hk,n,hn,hc⟩ R hnx hr hx';simp only at hk hn hc;have o3:=ho.us;simp only at o3;have e1:=i64s k;by_cases hlt:k<q.length
 ·have hd:q.drop k=q[k]::q.drop (k+1):=yho hlt;have hG:=ho.q _ (yfi hlt);cases n with
  | zero=>omega
  | succ n =>
  rw[hd]at hc hn;simp only[sxQ]at hc;simp only[yg2]at hn;have hc2:sxK goal nxt sy n (zno goal nxt q[k].1 q[k].2 (List.range' 1 (sy+1 - 1)) (q.drop (k+1)) s)=r0:=by rw[zu9]at hc;rw[yib];rw[<- hc];rcases zno goal nxt q[k].1 q[k].2 (List.range' 1 sy) (q.drop (k+1)) s with⟨_|v,q',s'⟩<;>rfl
  have hgq:q[k]?=some q[k]:=yfm hlt;generalize q[k]'hlt=G at *
  have hG2:(∀ n∈G.2,n<size)/\G.2.length<=size:=⟨hG.1,hG.2.2⟩;have hG1:G.1.length<q.length:=hG.2.1;have ho2:Xok size ⟨q,s,m,d,1⟩:=⟨ho.sl,ho.q,ho.us⟩;simp[g.l8,x4S,hpL,hlt];refine zie hgq ?_;refine z4x H hG2 (x0:=⟨q,s,m,d,1⟩) ho2 rfl hG1 hlt hc2 (fun s h=>hr s (hQ s h)) (Weak.toF [0,3,13,14,15,18,19,20,21] ks7 [((18,0),18),((20,0),20)] ?_) fun x hxo hxk hxu hxc=>?_
  ·simp[x3S,hpL,qHp,visV,visC]
  obtain⟨q2,s2,m2,d2,l2⟩:=x;simp only at hxk hxu hxc;simp[x3S,hpL,qHp,e1];refine hnx (k+1,⟨q2,s2,m2,d2,l2⟩) _ (Weak.toF [0,3,13,14,15,18,19] ks7 [((18,0),18)] ?_) ⟨hxo,by simp only;omega,n,?_,hxc⟩ (by simp only;omega)
  ·simp[x4S,hpL,visV,visC]
  ·simp only[yhk]at hn ⊢;omega
 ·have:k=q.length:=by omega
  subst this;rw[List.drop_length]at hc;have hr0:r0=none:=by rw[<- hc];cases n<;>rfl
  simp[g.l8,x4S,hpL];refine hx' _ _ ?_;simpa[x4S,hpL]using hx hr0 q.length ⟨q,s,m,d,l⟩
def x1S(sy size:Nat)(gl:PV)(fN:FuncId)(cN:List PV)(beg:List Nat)(v:Sv)(j:Nat):St :=
 ⟨[(0,.p (.int .i64 sy)),(3,.p (.fn fN cN)),(13,.ptr 900002 0 0 0),(14,.ptr 900004 0 0 0),(15,visV),(28,.p (.sl (ens (natI beg)))),(29,.p (.int .i64 beg.length)),(30,.p (.int .i64 j))],hpZ size gl v false++[(DEAD,[none])]⟩
theorem z4z{size sy:Nat}{gl:PV}{goal:Nat->Bool}{nxt:Nat->Nat->List Nat}{fN:FuncId}{cN:List PV}(H:NxG size sy gl goal nxt fN cN){beg:List Nat}(hb:∀ n∈beg,n<size)(hbl:beg.length<=100000){v:Sv}(hv:Vin size v.d v){Q:Exit->St->Prop}{ks:List Kt}{st:St}
  (hw:Weak st (x1S sy size gl fN cN beg v 0)) (hx:zb6 P 88 Q (zaw 0 ks) 0 (x1S sy size gl fN cN beg (v.vs goal beg) beg.length)):vL P 88 Q g.nc ks st:=by
 have hsz:=H.sz;refine zaj (S:=fun j:Nat=>x1S sy size gl fN cN beg (v.vs goal (beg.take j)) j) (I:=fun j=>j<=beg.length) (m:=fun j=>beg.length - j) 0 (by simpa[Sv.vs]using hw) (Nat.zero_le _) ?_;intro j hj R hn hr hx';have e1:=i64s j;by_cases hlt:j<beg.length
 ·have hs:v.vs goal (beg.take (j+1))=(v.vs goal (beg.take j)).vis goal beg[j]:=by unfold Sv.vs;rw[yfu hlt,yh5];rfl
  have hgj:=zth beg hlt;have hji:j<(natI beg).length:=by rw[zd4];exact hlt
  have hnl:=hb _ (yfi hlt);have hvj:=zkb goal (beg.take j) hv;have hus:=hvj.us;have hnx:=zka H.gg hvj.sl (by omega) hnl false;have hend:∀ st',Weak st' (x1S sy size gl fN cN beg (v.vs goal (beg.take (j+1))) (j+1))->R .normal st':=fun st' hh=>hn (j+1) st' hh (by omega) (by omega);rw[hs]at hend;generalize v.vs goal (beg.take j)=v1 at *
  have hf2:=fun v:Sv=>zhf v.m v.x.f;have hf3:=fun v:Sv=>zf3 v.d false;have hf4:=fun v:Sv=>zhg v.m v.x.f;simp[g.nc,x1S,hpZ,hlt,zd4];refine zad hji ?_;rw[hgj];generalize beg[j]'hlt=b at *
  simp[visV];refine zb7 hnx (by simp[visC,zb0]) ?_ rfl ?_ ?_
  ·simp[zbb,St.site,look,hpZ]
  ·have q1:=zbn size gl v1 false;have q2:=zbn size gl (v1.vis goal b) false;show(zam ks7 _&&hpOk ks7 (hpZ size gl v1 false)&&zdi ks7 (.av (.tup []))&&hpOk ks7 (hpZ size gl (v1.vis goal b) false))=true;rw[q1,q2];rfl
  simp[zcd,e1];refine hend _ (Weak.toF [0,3,13,14,15,28,29,30] ks7 [] ?_);simp[x1S,hpZ,visV,visC];exact⟨hf4 _,fun x hx=>yfp.1 (hf2 _) x hx,fun x hx=>yfp.1 (hf3 _) x hx⟩
 ·have:j=beg.length:=by omega
  subst this;rw[yfs]at *
  simp[g.nc,x1S,hpZ];refine hx' _ _ ?_;simpa[x1S,hpZ]using hx
theorem zkk{size sy:Nat}{gl:PV}{goal:Nat->Bool}{nxt:Nat->Nat->List Nat}{fN:FuncId}{cN:List PV}(H:NxG size sy gl goal nxt fN cN){beg:List Nat}(hb:∀ n∈beg,n<size)(hbl:beg.length<=100000) :
  Sp P F.fh [.int .i64 sy,.int .i64 size,.sl (ens (natI beg)),.fn fN cN,gl] (.pure (resS (sx goal nxt sy size beg))):=by
 have hsz:=H.sz;have hgs:=H.gs;have hv0:Vin size 0 ⟨⟨List.replicate size false,[],false⟩,0,0⟩:=⟨by simp,by have:=z48 (List.replicate size false);simp only[List.length_replicate]at this;simp only[yi4];omega,rfl⟩;refine Sp.of_mr c.fh (by simp) ?_;unfold g.fh;generalize hR:(fun(ex:Exit) (st:St) (_:Option FA)=>retP [(10,none),(11,none)] (RV.pure (resS (sx goal nxt sy size beg))) ex st)=R;refine MR.gseq ?_;simp;refine⟨hgs,?_⟩;refine MR.gseq ?_;simp;refine⟨by omega,?_⟩;refine MR.gseq ?_;simp;refine MR.gseq ?_;simp;refine MR.gseq ?_;simp;have hrp:(List.replicate size (AV.p (PV.bool false)))=avs (List.replicate size false):=by rw[zf0];rfl
 rw[hrp];generalize hs0:List.replicate size false=s0 at *
 refine MR.weak (st1:=⟨[(0,.p (.int .i64 sy)),(2,.p (.sl (ens (natI beg)))),(3,.p (.fn fN cN)),(13,.ptr 900002 0 0 0),(14,.ptr 900004 0 0 0),(15,visV)],hpZ size gl ⟨⟨s0,[],false⟩,0,0⟩ false++[(DEAD,[none])]⟩)
  (zfj [0,2,3,13,14,15] [(900000,[(12,0)]),(900001,[(26,0)]),(900002,[(13,0)]),(900003,[]),(900004,[(14,0)]),(900005,[(9,0)]),(900006,[])] ?_
   (fun σ => σ 12 0=(900000,0) /\ σ 26 0=(900001,0) /\ σ 13 0=(900002,0) /\ σ 14 0=(900004,0) /\ σ 9 0=(900005,0)) ?_ ?_) ?_
 ·simp[ze4,zl6,zdy,PINB,DEAD,zct]
 ·simp[sgP,zfr,zdm,St.site,look]
 ·rintro σ ⟨s1,s2,s3,s4,s5⟩;have e:=zet σ s0;simp[hpP,catS,sub,subO,subL,St.get,look,St.site,hpZ,fnd,fob,visO,visV,visC,s1,s2,s3,s4,s5,e]
 refine MR.of_vm ?_;have hQ:∀ ex s,retP [(10,none),(11,none)] (RV.pure (resS (sx goal nxt sy size beg))) ex s->R ex s none:=fun ex s h=>by rw[<- hR];exact h
 clear hR;generalize hQe:(fun ex s=>R ex s none)=Q;have hQ:∀ ex s,retP [(10,none),(11,none)] (RV.pure (resS (sx goal nxt sy size beg))) ex s->Q ex s:=fun ex s h=>by rw[<- hQe];exact hQ ex s h
 clear hQe;simp[hpZ,zd4];refine z4z H hb hbl (v:=⟨⟨s0,[],false⟩,0,0⟩) hv0 (Weak.toF [0,3,13,14,15,28,29,30] ks7 [] ?_) ?_
 ·simp[x1S,hpZ,visV,visC,fnd,fob,visO,zd4]
 have hvin:=zkb goal beg hv0;have hvx:=zq8 goal beg ⟨⟨s0,[],false⟩,0,0⟩;have hus:=z41 (goal:=goal) beg ⟨s0,[],false⟩;have hfl:=vs_f (goal:=goal) beg ⟨s0,[],false⟩;have hsx:sx goal nxt sy size beg=if (Sx.vs goal ⟨s0,[],false⟩ beg).r=true then some []else sxQ goal nxt sy (size+2) [([],(Sx.vs goal ⟨s0,[],false⟩ beg).f)] (Sx.vs goal ⟨s0,[],false⟩ beg).s:=by rw[<- hs0];rfl
 have hs0l:us s0<=size:=by rw[<- hs0];have:=z48 (List.replicate size false);simpa using this
 have hrr:=vs_r (goal:=goal) beg ⟨s0,[],false⟩ rfl;simp only at hvx;rw[<- hvx]at hus hfl hsx hrr;clear hvx;generalize Sv.vs goal ⟨⟨s0,[],false⟩,0,0⟩ beg=v at *
 obtain⟨⟨s,f,r⟩,m,d⟩:=v;obtain⟨i1,i2,_⟩:=hvin;simp only[yi4,ygl]at hus hfl hsx hrr i1 i2;have hf2:∀ n∈f,n<size:=fun n hn=>by
  rcases hfl n hn with h|⟨h,_⟩
  ·cases h
  ·exact hb n h
 clear hfl;rw[hsx]at hQ;simp[x1S,hpZ];cases r with
 | true =>
  simp only[yf2]at hQ;simp;refine hQ _ _ ?_;simp[resS,ens]
 | false =>
  simp only[yfl,yf9]at hQ;have hend:∀ (x:Xs),Xok size x->us x.s+x.q.length<size+2->sxQ goal nxt sy (size+2) x.q x.s=sxQ goal nxt sy (size+2) [([],f)] s->∀ st,Weak st (x4S sy size gl fN cN 0 x)->vL P 88 Q g.l8 [.blk 2,.code (.seq (.reg [⟨some 10,.mv (.c .nil),none⟩,⟨some 11,.mv (.c (.p (.bool false))),none⟩] [[0,3,13,14,15,18,19]]) .ret)] st:=by intro x hx1 hx2 hx3 st hw;refine z4w H hx1 hx2 hx3 (fun s h=>hQ _ s h) hw fun hn k x=>?_;rw[hn]at hQ;simp[x4S];refine hQ _ _ ?_;simp[resS,ens]
  have hxok:Xok size ⟨[([],f)],s,0,0,0⟩:=by refine⟨i1,fun X hX=>?_,by simp only[yhe];omega⟩;rw[ygj]at hX;subst hX;exact⟨hf2,by simp,by simp only;omega⟩
  cases f with
  | nil =>
   simp[fnd,fob,visO];refine hend ⟨[([],[])],s,m,d,0⟩ ⟨hxok.sl,hxok.q,hxok.us⟩ (by simp only[yhe];omega) rfl _ ((Weak.anyCells (s:=900002) (g:=0) (o:=⟨1,[.nil]⟩) [.p .any] rfl rfl (by simp) ⟨.inr ⟨rfl,rfl⟩,trivial⟩).trans (Weak.toF [0,3,13,14,15,18,19] ks7 [((41,0),18)] ?_));simp[x4S,hpL,visV,visC,St.setObj,natI]
  | cons a f =>
   simp[fnd,fob,visO];have hY:(natI (a::f)).length=f.length+1:=by simp[natI]
   have hY2:(natI (a::f)).take (f.length+1)=natI (a::f):=yfw (by omega)
   refine hend ⟨[([],a::f)],s,m+1,d,0⟩ ⟨hxok.sl,hxok.q,hxok.us⟩ (by simp only[yhe];omega) rfl _ ((Weak.freezeTo (s:=41) (g:=0) (n:=3) (o:=⟨2,[.agg [.p (.sl []),.own 900003 m 0 (f.length+1)]]⟩) (ens [(([]:List Int),a::f)]) [(900003,m)] ?_ ?_ ?_ ?_).trans
     ((Weak.anyCells (s:=900002) (g:=0) (o:=⟨1,[.own 900003 m 0 (f.length+1)]⟩) [.p .any] ?_ rfl (by simp) ⟨.inr ⟨rfl,rfl⟩,trivial⟩).trans (Weak.toF [0,3,13,14,15,18,19] ks7 [((41,0),18)] ?_)))
   ·simp[St.obj,St.site,look]
   ·simp[St.obj,St.site,look,hY,hY2]
   ·simp[St.obj,St.site,look]
   ·simp
   ·simp[St.obj,St.site,look,killAll,zbe,St.kill,St.setObj]
   ·simp[x4S,hpL,visV,visC,St.setObj,killAll,zbe];exact(yj5 ..).symm
def usf(U:List Bool)(q:Nat):Bool:=U.getD q false
theorem z35{A:GAuto}{N:Nat}(hA:CtrOk A N){U:List Bool}(hU:U.length=N):TOk2 (tgT A U) N (usf U):=⟨fun q l x hx=>by
 have:=zwi (L:=stpL (zba A.arcs q) l) hU (fun x hx=>hA.t x (yh0.1 (zjw hx).1).1) x hx;rw[hU]at this;exact this⟩
theorem nxg2{A:GAuto}{N:Nat}(hA:CtrOk A N){U:List Bool}(hU:U.length=N){en:PV}{E:Nat->Bool}(he:∀ q,q<N->FnSp en [.int .i64 (q:Nat)] (.bool (E q))){sy:Nat}(hsy:sy<=64) :
  NxG (2*N*N) sy (.fn F.an [.ref en,.ref (.int .i64 N)]) (gl2 N E) (nx2 (tgT A U) N) F.fi [.ref (enc (pth A U)),.ref (.int .i64 N),.ref (nodF N)] where
 sz:=by have hN:=hA.N1;have:2*N*N<=2*64*64:=yfz (yh1 2 hN) hN;omega
 sy6:=hsy
 gg:=fun n hn=>zt2 hA.N1 he hn
 gs:=rfl
 nx:=fun v k l h hk _ _=>zx1 hA hU (fun n hn=>zt2 hA.N1 he hn) hk l h
 lt:=fun k l=>z90 (z35 hA hU) k l
def bgR(N:Nat)(B:Nat->Bool)(a k:Nat):List Nat:=(List.range k).flatMap fun b=>if B a=true/\B b=true then[nod N a b false]else[]
def bgK(N:Nat)(B:Nat->Bool)(k:Nat):List Nat:=(List.range k).flatMap fun a=>bgR N B a N
theorem zsd(N:Nat)(B:Nat->Bool):bgK N B N=bg2 N B:=rfl
theorem zum(N:Nat)(B:Nat->Bool)(a k:Nat):bgR N B a (k+1)=bgR N B a k++(if B a=true/\B k=true then[nod N a k false]else[]):=by unfold bgR;rw[yjq,yhm];simp
theorem zun(N:Nat)(B:Nat->Bool)(k:Nat):bgK N B (k+1)=bgK N B k++bgR N B k N:=by unfold bgK;rw[yjq,yhm];simp
theorem zz6(N:Nat)(B:Nat->Bool)(a k:Nat):(bgR N B a k).length<=k:=by
 induction k with
 | zero=>simp[bgR]
 | succ k ih=>rw[zum,ygi];split<;>simp<;>omega
theorem zz7(N:Nat)(B:Nat->Bool)(k:Nat):(bgK N B k).length<=k*N:=by
 induction k with
 | zero=>simp[bgK]
 | succ k ih=>rw[zun,ygi,ygt];have:=zz6 N B k N;omega
def nodA(N:Nat):AV:=.fn F.bg [.ptr 8 0 0 0]
def tHp(A:GAuto)(U:List Bool)(en:PV)(N:Nat)(L:List Nat):List Site:=[(3,[some ⟨9,[.p (enc (pth A U))]⟩]),(5,[some ⟨1,[.p en]⟩]),(8,[some ⟨1,[.p (.int .i64 N)]⟩]),(9,[some ⟨1,[nodA N]⟩]),(10,[some ⟨1,avs (natI L)⟩]),(DEAD,[none])]
def t1S(A:GAuto)(U:List Bool)(bn en:PV)(N a:Nat)(L:List Nat)(b:Nat):St :=
 ⟨[(1,.p bn),(3,.ptr 3 0 0 0),(5,.ptr 5 0 0 0),(8,.ptr 8 0 0 0),(9,.ptr 9 0 0 0),(10,.own 10 0 0 L.length),(11,.p (.int .i64 a)),(18,.p (.int .i64 N)),(19,.p (.int .i64 a)),(22,.p (.int .i64 N)),(23,.p (.int .i64 b))],tHp A U en N L⟩
def t2S(A:GAuto)(U:List Bool)(bn en:PV)(N:Nat)(L:List Nat)(a:Nat):St :=
 ⟨[(1,.p bn),(3,.ptr 3 0 0 0),(5,.ptr 5 0 0 0),(8,.ptr 8 0 0 0),(9,.ptr 9 0 0 0),(10,.own 10 0 0 L.length),(18,.p (.int .i64 N)),(19,.p (.int .i64 a))],tHp A U en N L⟩
theorem zx2(l:List Nat)(x:Nat):avs (natI l)++[.p (.int .i64 x)]=avs (natI (l++[x])):=by rw[show natI (l++[x])=natI l++[(x:Int)] by simp[natI],zd7];rfl
theorem z5c{A:GAuto}{N:Nat}(hN:N<=64){U:List Bool}(hU:U.length=N){bn en:PV}{B:Nat->Bool}(hb:∀ q,q<N->FnSp bn [.int .i64 (q:Nat)] (.bool (B q))){a:Nat}(ha:a<N){L:List Nat}(hL:L.length<=5000)
  {Q:Exit->St->Prop} {ks:List Kt} {st:St} (hw:Weak st (t1S A U bn en N a L 0)) (hx:zb6 P 71 Q (zaw 2 ks) 2 (t1S A U bn en N a (L++bgR N (fun s=>usf U s&&B s) a N) N)):vL P 71 Q g.m9 ks st:=by
 refine zaj (S:=fun b:Nat=>t1S A U bn en N a (L++bgR N (fun s=>usf U s&&B s) a b) b) (I:=fun b=>b<=N) (m:=fun b=>N - b) 0 (by simpa[bgR]using hw) (Nat.zero_le _) ?_;intro b hbN R hn hr hx';have e1:=i64s b;by_cases hlt:b<N
 ·have hs:=zum N (fun s=>usf U s&&B s) a b;have hlen:=zz6 N (fun s=>usf U s&&B s) a b;have hend:∀ st',Weak st' (t1S A U bn en N a (L++bgR N (fun s=>usf U s&&B s) a (b+1)) (b+1))->R .normal st':=fun st' hh=>hn (b+1) st' hh (by omega) (by omega);rw[hs,<- List.append_assoc]at hend;have hL2:(L++bgR N (fun s=>usf U s&&B s) a b).length<=5064:=by rw[ygi];omega
  generalize L++bgR N (fun s=>usf U s&&B s) a b=M at *
  have haU:a<U.length:=by omega
  have hbU:b<U.length:=by omega
  have ga:usf U a=U[a]:=by unfold usf;rw[yfj,yfm haU];rfl
  have gb:usf U b=U[b]:=by unfold usf;rw[yfj,yfm hbU];rfl
  rw[ga,gb]at hend;have hnd:=zxu (d:=false) hN ha hlt;simp[-zc1,g.m9,t1S,tHp,hlt,pth];refine zad haU ?_;cases hua:U[a]with
  | false =>
   rw[hua]at hend;simp only[Bool.false_and,yfl,false_and,yf9,yia]at hend;simp[e1];exact hend _ (Weak.to [1,3,5,8,9,10,11,18,19,22,23] [((3,0),3),((5,0),5),((8,0),8),((9,0),9),((10,0),10)] (by simp[t1S,tHp,pth,nodA]))
  | true =>
   rw[hua]at hend;simp only[yhp]at hend;simp[-zc1];refine zad hbU ?_;cases hub:U[b]with
   | false =>
    rw[hub]at hend;simp only[Bool.false_and,yfl,and_false,yf9,yia]at hend;simp[e1];exact hend _ (Weak.to [1,3,5,8,9,10,11,18,19,22,23] [((3,0),3),((5,0),5),((8,0),8),((9,0),9),((10,0),10)] (by simp[t1S,tHp,pth,nodA]))
   | true =>
    rw[hub]at hend;simp only[yhp]at hend;simp[-zc1];refine zfx (hb a ha) rfl fun c=>?_;cases hba:B a with
    | false =>
     rw[hba]at hend;simp only[yfl,false_and,yf9,yia]at hend;simp[e1];exact hend _ (Weak.to [1,3,5,8,9,10,11,18,19,22,23] [((3,0),3),((5,0),5),((8,0),8),((9,0),9),((10,0),10)] (by simp[t1S,tHp,pth,nodA]))
    | true =>
     rw[hba]at hend;simp only[true_and]at hend;simp[-zc1];refine zfx (hb b hlt) rfl fun c=>?_;cases hbb:B b with
     | false =>
      rw[hbb]at hend;simp only[yfl,yf9,yia]at hend;simp[e1];exact hend _ (Weak.to [1,3,5,8,9,10,11,18,19,22,23] [((3,0),3),((5,0),5),((8,0),8),((9,0),9),((10,0),10)] (by simp[t1S,tHp,pth,nodA]))
     | true =>
      rw[hbb]at hend;simp only[yf2]at hend;simp[nodA];refine zaa hnd (by simp;rfl) ?_;simp[e1,zd4,LIM];refine⟨by omega,?_⟩;rw[zx2];exact hend _ (Weak.to [1,3,5,8,9,10,11,18,19,22,23] [((3,0),3),((5,0),5),((8,0),8),((9,0),9),((54,0),10)] (by simp[t1S,tHp,pth,nodA]))
 ·have:b=N:=by omega
  subst this;simp[g.m9,t1S,tHp];refine hx' _ _ ?_;simpa[t1S,tHp]using hx
end Go.Ab
