/- Lemmas for the law ComposeBuildsMadeModels, part 34. No conditions. -/
import Derived.Test.YthhdboljpgdcpaaGreatDoorAP33
set_option maxRecDepth 100000
set_option maxHeartbeats 4000000
set_option linter.all false
namespace Go.Ab
section
variable {α : Type} {key : α -> List Int}
def uV(key : α -> List Int)(s:Nat):Nat->List α -> List α
 | 0,_=>[]
 | n+1,l=>if l.length<=s then b6 key l else b6 key (l.take s)++uV key s n (l.drop s)
def ab(key : α -> List Int)(s:Nat)(l:List α):List α := uV key s l.length l
theorem R6:b6 key ([]:List α)=[]:=rfl
theorem Q6{s:Nat}(hs:1<=s):∀ (n m:Nat) (l:List α),l.length<=n->l.length<=m->uV key s n l=uV key s m l
 | 0,0,l,_,_=>rfl
 | 0,m+1,l,h,_=>by
  have:l=[]:=qV (by omega);subst this;simp[uV,R6]
 | n+1,0,l,_,h=>by
  have:l=[]:=qV (by omega);subst this;simp[uV,R6]
 | n+1,m+1,l,d,f=>by
  simp only[uV];split
  .rfl
  .rw[Q6 hs n m (l.drop s) (by rw[lp];omega) (by rw[lp];omega)]
theorem yv{s:Nat}{l:List α}(h:l.length<=s):ab key s l=b6 key l:=by
 unfold ab;cases l with
 | nil=>rfl
 | cons x r=>simp only[List.length_cons,uV];rw[if_pos (by simpa using h)]
def HR{s:Nat}(hs:1<=s){l:List α}(h:s<l.length):ab key s l=b6 key (l.take s)++ab key s (l.drop s):=by unfold ab;obtain⟨n,d⟩:∃ n,l.length=n+1:=⟨l.length - 1,by omega⟩;rw[d];simp only[uV];rw[aY (by omega),Q6 hs n (l.drop s).length (l.drop s) (by rw[lp];omega) (dK _)]
def I8{s:Nat}(hs:1<=s){l:List α}(h:s<=l.length):ab key s l=b6 key (l.take s)++ab key s (l.drop s):=by
 obtain h|h:=Nat.lt_or_eq_of_le h
 .exact HR hs h
 .rw[yv (by omega),fK (by omega),xr (by omega)];simp[ab,uV]
theorem SF{s:Nat}(hs:1<=s):∀ (n:Nat) (l:List α),l.length<=n->(ab key s l).length=l.length/\∀ x,x∈ab key s l ↔ x∈l
 | 0,l,h=>by
  have:l=[]:=qV (by omega);subst this;simp[ab,uV]
 | n+1,l,h=>by
  by_cases d:l.length<=s
  .rw[yv d];exact(iQ l).2
  .rw[HR hs (by omega)];obtain⟨f,i⟩:=SF hs n (l.drop s) (by rw[lp];omega);obtain⟨_,j,k⟩:=iQ (key:=key) (l.take s);refine⟨?_,λx=>?_⟩
   .have:=congrArg List.length (oJ s l);rw[gL]at this;rw[gL,f,j];exact this
   .rw[dT,i,k,<- List.mem_append,oJ]
def ym{s:Nat}(hs:1<=s)(l:List α):(ab key s l).length=l.length:=(SF hs _ l (dK _)).1
theorem HQ{s:Nat}(hs:1<=s):∀ (n:Nat) (u v:List α),u.length=n*s->ab key s (u++v)=ab key s u++ab key s v
 | 0,u,v,h=>by
  have:u=[]:=List.eq_nil_of_length_eq_zero (by simpa using h);subst this;simp[ab,uV]
 | n+1,u,v,h=>by rw[yL]at h;rw[I8 hs (l:=u++v) (by simp;omega),I8 hs (l:=u) (by omega),D0 (by omega),FK (by omega),HQ hs n (u.drop s) v (by rw[lp];omega),uK]
def Q7{s:Nat}(hs:1<=s){n a:Nat}{l:List α}(d:a=n*s)(h:a+s<=l.length):ab key s (l.take (a+s))=ab key s (l.take a)++b6 key ((l.drop a).take s):=by
 have e:l.take (a+s)=l.take a++(l.drop a).take s:=by rw[List.take_add]
 rw[e,HQ hs n _ _ (by rw[iB];omega),yv (l:=(l.drop a).take s) (by rw[iB];omega)]
def Yr{s:Nat}(hs:1<=s){l:List α}(f:s<l.length):ab key s l=b6 key (l.take s)++(b6 key ((l.drop s).take s)++ab key s (l.drop (2*s))):=by
 rw[HR hs f]
 congr 1
 by_cases d:s<=(l.drop s).length
 .rw[I8 hs d,wj,show s+s=2*s by omega]
 .rw[yv (by omega),fK (by omega),xr (show l.length<=2*s by rw[lp]at d;omega)];simp[ab,uV]
end
end Go.Ab
namespace Go.Ab
open Enc (enc)
attribute [local simp] fX bL.aR
section
variable {α : Type} [Enc α]
def SE{I:SI}(hI:qQ I)(au:Enc.sz α = I.z)(bb:∀ x : α,(enc x).cells.all PV.one=true){key : α -> List Int}{cf:FuncId}{D : α -> Prop}(hD:∀ x y,D x->D y->∃ n:Int,Sp P cf [enc x,enc y] (.pure (.int .i64 n))/\(n<0 ↔ key x<key y))
  (k l S L0:List α) (w:L0=k++(l++S)) (br:L0.length<=1000000) (dl:∀ x∈l,D x) (a b:Nat) (ha:a=k.length) (hb:b=a+l.length) :
  jD P I.ins [.sl (aH L0),.int .i64 a,.int .i64 b,.fn cf []] 0 I.z (aH (k++(b6 key l++S))) (.pure (.bP [])):=by
 have Z:∀ x : α,(enc x).sz=I.z:=λx=>by rw[Enc.ok,au]
 have V:(k++(b6 key l++S)).length=L0.length:=by rw[w];simp[(iQ l).2.1]
 have aw:L0.length=k.length+l.length+S.length:=by rw[w];simp;omega
 have ag:=bH a;refine jD.cS hI.ins (by simp) rfl (by simp[V]) ?_;simp[HT,ag]
 refine cQ (S:=λs:List α × Nat=>aD [(0,.own bG 0 0 L0.length),(1,.p (.int .i64 a)),(2,.p (.int .i64 b)),(3,.p (.fn cf [])),(8,.p (.int .i64 (a+s.2:Nat)))] [(bG,⟨I.z,aT s.1⟩)]) (I:=λs=>1<=s.2/\s.1=k++(wZ key l s.2++S)) (m:=λs=>l.length+1 - s.2) (L0,1)
  (aA.to [0,1,2,3,8] [((bG,0),bG)] (by simp[aD])) ⟨dK _,by rw[XO,w]⟩ ?_
 rintro⟨L1,i⟩ ⟨h1,o⟩ R hn hr hx;simp only at h1 o;have av:L1.length=L0.length:=by rw[o,gL,gL,XN];omega
 by_cases hi:i<l.length;rotate_left
 .have bo:¬ ((a+i:Nat):Int)<(b:Int):=by omega
  have G:¬ (a:Int)+i<(b:Int):=by omega
  rw[W4 (by omega)]at o;rw[<- o]at *
  simp[KL,aD,G];refine hx _ _ ?_;simp
 have e1:IntKind.i64.wrap ((a:Int)+i+1)=(a:Int)+(i+1):=by rw[cG (by omega) (by omega)];omega
 have G:(a:Int)+i<(b:Int):=by omega
 have K:=iQ (key:=key) (l.take i);have ad:(b6 key (l.take i)).length=i:=by rw[K.2.1];simp;omega
 have u:∀ L2:List α,L2=k++(wZ key l (i+1)++S)->∀ s,aA s (aD [(0,.own bG 0 0 L0.length),(1,.p (.int .i64 a)),(2,.p (.int .i64 b)),(3,.p (.fn cf [])),(8,.p (.int .i64 (a+(i+1):Nat)))] [(bG,⟨I.z,aT L2⟩)])->R .normal s:=λL2 h2 s hs=>
  hn (L2,i+1) s hs ⟨by simp only;omega,h2⟩ (by simp only;omega)
 simp[KL,aD,G]
 refine cQ (S:=λx:List α × Nat=>aD [(0,.own bG 0 0 L0.length),(1,.p (.int .i64 a)),(2,.p (.int .i64 b)),(3,.p (.fn cf [])),(8,.p (.int .i64 (a+i:Nat))),(9,.p (.int .i64 (a+x.2:Nat)))] [(bG,⟨I.z,aT x.1⟩)])
  (I:=λx=>∃ A B,x.1=k++(A++(l[i]::(B++(l.drop (i+1)++S))))/\x.2=A.length/\A++B=b6 key (l.take i)/\∀ b∈B,key l[i]<key b) (m:=λx=>x.2) (L1,i)
  (aA.to [0,1,2,3,8,9] [((bG,0),bG)] (by simp[aD])) ⟨b6 key (l.take i),[],by rw[o,W5 hi];simp only[uK,xq,uJ],ad.symm,by simp,by simp⟩ ?_
 rintro⟨L,j⟩ ⟨A,B,Q,U,f,hB⟩ R2 ao bt af;simp only at Q U;have t:A.length+B.length=i:=by rw[<- List.length_append,f,ad]
 have bk:L.length=L0.length:=by rw[Q];simp;omega
 have hm:∀ y,y∈A++B->D y:=λy N=>by rw[f,K.2.2]at N;exact dl y (jA N)
 obtain rfl|⟨d,z,rfl⟩:=Fz A
 .simp at U;subst U;simp[K0,aD];refine af _ _ ?_;simp[e1];refine u L ?_ _ (aA.to [0,1,2,3,8] [((bG,0),bG)] (by simp[aD]));rw[Qt hi,<- f,Jj hB (by simp),Q];simp
 .simp only[B3]at U Q f t hm;simp at U t;subst U;have C:L=(k++d)++(z::l[i]::(B++(l.drop (i+1)++S))):=by rw[Q];simp
  have hP:(k++d).length=a+d.length:=by simp;omega
  have O:L[a+d.length]?=some z:=by rw[C,<- hP];simp
  have M:L[a+d.length+1]?=some l[i]:=by rw[C,qC (by omega),show a+d.length+1 - (k++d).length=1 by omega];rfl
  obtain⟨n,ap,W⟩:=hD l[i] z (dl _ (bV hi)) (hm z (by simp));have e3:IntKind.i64.wrap ((a:Int)+(d.length+1) - 1)=(a:Int)+d.length:=by rw[cG (by omega) (by omega)];omega
  have t1:((a:Int)+d.length).toNat=a+d.length:=by omega
  have t2:((a:Int)+(d.length+1)).toNat=a+d.length+1:=by omega
  have al:(a:Int)<(a:Int)+(d.length+1):=by omega
  simp[K0,aD,e3,t1,t2,al];refine⟨⟨by omega,by omega,by omega⟩,eO M ⟨⟨by omega,by omega,by omega⟩,eO O ?_⟩⟩;refine bF ap rfl ?_;by_cases r:n<0
  .have J:((aT L).set (a+d.length+1) (.p (enc z))).set (a+d.length) (.p (enc l[i]))=aT ((L.set (a+d.length+1) z).set (a+d.length) l[i]):=by simp[-jE,aT,aH,DQ]
   have aq:(L.set (a+d.length+1) z).set (a+d.length) l[i]=k++(d++(l[i]::((z::B)++(l.drop (i+1)++S)))):=by rw[C,<- hP,On];simp
   have F:∀ s,aA s (aD [(0,.own bG 0 0 L0.length),(1,.p (.int .i64 a)),(2,.p (.int .i64 b)),(3,.p (.fn cf [])),(8,.p (.int .i64 (a+i:Nat))),(9,.p (.int .i64 (a+d.length:Nat)))] [(bG,⟨I.z,aT ((L.set (a+d.length+1) z).set (a+d.length) l[i])⟩)])->R2 .normal s:=λs hs=>
    ao ((L.set (a+d.length+1) z).set (a+d.length) l[i],d.length) s hs ⟨d,z::B,aq,rfl,by rw[<- f];simp,λb hb=>by
     obtain rfl|hb:=bY.1 hb
     .exact W.1 r
     .exact hB b hb⟩ (by simp)
   simp[r,e3,t1,t2];refine⟨⟨by omega,by omega,by omega⟩,eO O ⟨⟨by omega,by omega,by omega⟩,eO M ⟨⟨by omega,by omega,by omega⟩,eO M ⟨⟨Z z,I.hz⟩,⟨by omega,by omega,by omega⟩,?_⟩⟩⟩⟩;rw[lM];refine eO (x:=.p (enc z)) ?_ ?_
   .rw[vx,aY (by omega)];simp[-jE,aT,aH,O]
   rw[Gl];refine⟨⟨Z _,I.hz⟩,?_⟩;rw[J];generalize (L.set (a+d.length+1) z).set (a+d.length) l[i]=L3 at *
   simp[e3];exact F _ (aA.to [0,1,2,3,8,9] [((bG,0),bG)] (by simp[aD]))
  .simp[r];refine af _ _ ?_;simp[e1];refine u L ?_ _ (aA.to [0,1,2,3,8] [((bG,0),bG)] (by simp[aD]));have X:¬ key l[i]<key z:=λh=>r (W.2 h);rw[Qt hi,<- f,Jj hB,Q]
   .simp
   .intro y N;simp only[dT,jF]at N;obtain N|rfl:=N
    .intro hk;have Y:=K.1;rw[<- f]at Y;have:=(vy.1 (vy.1 Y).1).2.2 y N z (by simp);exact X (E' hk this)
    .exact X
end
section
variable {α : Type} [Enc α]
def W7{I:SI}(hI:qQ I)(w:Enc.sz α = I.z)(k:∀ x : α,(enc x).cells.all PV.one=true){key : α -> List Int}{cf:FuncId}{D : α -> Prop}(hD:∀ x y,D x->D y->∃ n:Int,Sp P cf [enc x,enc y] (.pure (.int .i64 n))/\(n<0 ↔ key x<key y))
  (l:List α) (ao:l.length<=1000000) (dl:∀ x∈l,D x) :
  jD P I.st [.sl (aH l),.int .i64 l.length,.fn cf []] 0 I.z (aH (b6 key l)) (.pure (.bP [])):=by
 refine jD.cS hI.st (by simp) rfl (by simp[(iQ l).2.1]) ?_;have r:(1:Nat)<=20:=by omega
 simp[IE]
 refine cQ (S:=λs:List α × Nat=>aD [(0,.own bG 0 0 l.length),(1,.p (.int .i64 l.length)),(2,.p (.fn cf [])),(6,.p (.int .i64 20)),(7,.p (.int .i64 (20*s.2:Nat))),(8,.p (.int .i64 (20*s.2+20:Nat)))] [(bG,⟨I.z,aT s.1⟩)])
  (I:=λs=>20*s.2<=l.length/\s.1=ab key 20 (l.take (20*s.2))++l.drop (20*s.2)) (m:=λs=>l.length - 20*s.2) (l,0)
  (aA.to [0,1,2,6,7,8] [((bG,0),bG)] (by simp[aD])) ⟨by simp,by simp[ab,uV]⟩ ?_
 rintro⟨L,n⟩ ⟨M,t⟩ R hn hr hx;simp only at M t;have i:L.length=l.length:=by rw[t,gL,ym r,<- List.length_append,oJ]
 have F:L.take l.length=L:=by rw[<- i];exact lO
 have W:(ab key 20 (l.take (20*n))).length=20*n:=by rw[ym r,iB];omega
 by_cases K:20*n+20<=l.length
 .have j:(20*(n:Int)+20)<=(l.length:Int):=by omega
  have hs:L=ab key 20 (l.take (20*n))++((l.drop (20*n)).take 20++(l.drop (20*n)).drop 20):=by rw[oJ];exact t
  have tl:((l.drop (20*n)).take 20).length=20:=by rw[iB,lp];omega
  have o:=SE hI w k hD (ab key 20 (l.take (20*n))) ((l.drop (20*n)).take 20) ((l.drop (20*n)).drop 20) L hs (by omega) (λx h=>dl x (lu (jA h))) (20*n) (20*n+20) W.symm (by omega);have f:ab key 20 (l.take (20*n))++(b6 key ((l.drop (20*n)).take 20)++(l.drop (20*n)).drop 20)=ab key 20 (l.take (20*(n+1)))++l.drop (20*(n+1)):=by rw[show 20*(n+1)=20*n+20 by omega,Q7 r (n:=n) (a:=20*n) (by omega) K,wj];simp
  rw[f]at o;have u:(ab key 20 (l.take (20*(n+1)))++l.drop (20*(n+1))).length=l.length:=by rw[gL,ym r,<- List.length_append,oJ]
  have d:∀ s,aA s (aD [(0,.own bG 0 0 l.length),(1,.p (.int .i64 l.length)),(2,.p (.fn cf [])),(6,.p (.int .i64 20)),(7,.p (.int .i64 (20*(n+1):Nat))),(8,.p (.int .i64 (20*(n+1)+20:Nat)))] [(bG,⟨I.z,aT (ab key 20 (l.take (20*(n+1)))++l.drop (20*(n+1)))⟩)])->R .normal s:=λs hs=>
   hn (_,n+1) s hs ⟨by simp only;omega,rfl⟩ (by simp only;omega)
  generalize ab key 20 (l.take (20*(n+1)))++l.drop (20*(n+1))=G at *
  have e1:IntKind.i64.wrap (20*(n:Int)+20+20)=20*((n:Int)+1)+20:=by rw[cG (by omega) (by omega)];omega
  simp[Kk,aD,j];refine sE o (by simp[i,F]) rfl rfl (by simp) (by simp[i]) (by simp[u]) rfl (nE _ _ w) (cells_one k _) (by simp) ?_;simp[e1];exact d _ (aA.to [0,1,2,6,7,8] [((bG,0),bG)] (by simp[aD];omega))
 .have j:¬ (20*(n:Int)+20)<=(l.length:Int):=by omega
  clear hn hr;have o:=SE hI w k hD (ab key 20 (l.take (20*n))) (l.drop (20*n)) [] L (by rw[t];simp) (by omega) (λx h=>dl x (lu h)) (20*n) l.length W.symm (by rw[lp];omega);have f:ab key 20 (l.take (20*n))++(b6 key (l.drop (20*n))++[])=ab key 20 l:=by have:=HQ (key:=key) r n (l.take (20*n)) (l.drop (20*n)) (by rw[iB];omega);rw[oJ]at this;rw[this,kZ,yv (l:=l.drop (20*n)) (by rw[lp];omega)]
  rw[f]at o;have u:(ab key 20 l).length=l.length:=ym r l;simp[Kk,aD,j];refine hx _ _ ?_;clear hx;simp;refine sE o (by simp[i,F]) rfl rfl (by simp) (by simp[i]) (by simp[u]) rfl (nE _ _ w) (cells_one k _) (by simp) ?_;simp
  refine cQ (S:=λs:List α × Nat=>aD [(0,.own bG 0 0 l.length),(1,.p (.int .i64 l.length)),(2,.p (.fn cf [])),(6,.p (.int .i64 s.2))] [(bG,⟨I.z,aT s.1⟩)])
   (I:=λs=>1<=s.2/\s.2<=4000000/\s.1=ab key s.2 l) (m:=λs=>l.length - s.2) (ab key 20 l,20)
   (aA.to [0,1,2,6] [((bG,0),bG)] (by simp[aD])) ⟨by simp,by simp,rfl⟩ ?_
  clear o f u W i F t K j M;clear L n;rintro⟨L,s⟩ ⟨M,h2,t⟩ R hn hr hx;simp only at M h2 t;have i:L.length=l.length:=by rw[t,ym M]
  by_cases K:s<l.length;rotate_left
  .rw[yv (by omega)]at t;have j:¬ (s:Int)<(l.length:Int):=by omega
   simp[Km,aD,K,j];refine hx _ _ ?_;simp[t]
  have j:(s:Int)<(l.length:Int):=by omega
  have e2:IntKind.i64.wrap (2*(s:Int))=2*(s:Int):=b5;have e3:IntKind.i64.wrap ((s:Int)*2)=2*(s:Int):=by rw[cG (by omega) (by omega)];omega
  simp[Km,aD,K,j,e2];have C:1<=2*s:=by omega
  have B:∀ (m:List α),(∀ x∈m,x∈l)->∀ x∈b6 key m,D x:=λm h x hx=>dl x (h x (((iQ m).2.2 x).1 hx))
  refine cQ (S:=λx:List α × Nat=>aD [(0,.own bG 0 0 l.length),(1,.p (.int .i64 l.length)),(2,.p (.fn cf [])),(6,.p (.int .i64 s)),(7,.p (.int .i64 (2*s*x.2:Nat))),(8,.p (.int .i64 (2*s*x.2+2*s:Nat)))] [(bG,⟨I.z,aT x.1⟩)])
   (I:=λx=>2*s*x.2<=l.length/\x.1=ab key (2*s) (l.take (2*s*x.2))++ab key s (l.drop (2*s*x.2))) (m:=λx=>l.length - 2*s*x.2) (L,0)
   (aA.to [0,1,2,6,7,8] [((bG,0),bG)] (by simp[aD])) ⟨by simp,by simp[t,ab,uV]⟩ ?_
  clear i t;rintro⟨L,n⟩ ⟨g1,t⟩ R2 ad ap al;simp only at g1 t;have af:(2*s*n:Nat)=n*(2*s):=oH _ _;have ag:2*s*(n+1)=2*s*n+2*s:=Nat.mul_succ _ _;have d:∀ G:List α,2*s*n+2*s<=l.length->G=ab key (2*s) (l.take (2*s*n+2*s))++ab key s (l.drop (2*s*n+2*s))->∀ Q,aA Q (aD [(0,.own bG 0 0 l.length),(1,.p (.int .i64 l.length)),(2,.p (.fn cf [])),(6,.p (.int .i64 s)),(7,.p (.int .i64 (2*s*n+2*s:Nat))),(8,.p (.int .i64 (2*s*n+2*s+2*s:Nat)))] [(bG,⟨I.z,aT G⟩)])->R2 .normal Q:=λG q1 q2 Q O=>by rw[<- ag]at q1 q2 O;exact ad (G,n+1) Q O ⟨q1,q2⟩ (by simp only;omega)
  clear ag ad;have J:=HQ (key:=key) C n (l.take (2*s*n)) (l.drop (2*s*n)) (by rw[iB];omega);rw[oJ]at J;have A:=λh=>Q7 (key:=key) C (n:=n) (a:=2*s*n) (l:=l) af h;clear af;have Y:((2*s*n:Nat):Int)=2*(s:Int)*n:=by push_cast;rfl
  generalize 2*s*n=a at *
  have lA:(ab key (2*s) (l.take a)).length=a:=by rw[ym C,iB];omega
  have i:L.length=l.length:=by rw[t,gL,lA,ym M,lp];omega
  have F:L.take l.length=L:=by rw[<- i];exact lO
  have tl:((l.drop a).take s).length=min s (l.length - a):=by rw[iB,lp]
  by_cases hc:a+2*s<=l.length
  .have X:(a:Int)+2*s<=(l.length:Int):=by omega
   have V:=Yr (key:=key) M (l:=l.drop a) (by rw[lp];omega);have lX:(b6 key ((l.drop a).take s)).length=s:=by rw[(iQ _).2.1,tl];omega
   have lY:(b6 key (((l.drop a).drop s).take s)).length=s:=by rw[(iQ _).2.1,iB,lp,lp];omega
   have o:=L4 hI w k hD (2*s) (ab key (2*s) (l.take a)) (b6 key ((l.drop a).take s)) (b6 key (((l.drop a).drop s).take s)) (ab key s ((l.drop a).drop (2*s))) L a (a+s) (a+2*s) (by omega) (by rw[t,V]) (by omega) (by omega) (by omega) (iQ _).1 (iQ _).1
    (B _ λx h=>lu (jA h)) (B _ λx h=>lu (lu (jA h))) lA.symm (by omega) (by omega)
   have f:ab key (2*s) (l.take a)++(b6 key (b6 key ((l.drop a).take s)++b6 key (((l.drop a).drop s).take s))++ab key s ((l.drop a).drop (2*s)))=ab key (2*s) (l.take (a+2*s))++ab key s (l.drop (a+2*s)):=by rw[R4,<- List.take_add,show s+s=2*s by omega,A hc,wj];simp
   rw[f]at o;have u:(ab key (2*s) (l.take (a+2*s))++ab key s (l.drop (a+2*s))).length=l.length:=by rw[gL,ym C,ym M,<- List.length_append,oJ]
   have d:=d _ hc rfl;clear f V A J;generalize ab key (2*s) (l.take (a+2*s))++ab key s (l.drop (a+2*s))=G at *
   have e4:IntKind.i64.wrap ((a:Int)+s)=((a+s:Nat):Int):=b5;have e5:IntKind.i64.wrap ((a:Int)+2*s+2*s)=((a+2*s+2*s:Nat):Int):=by rw[cG (by omega) (by omega)];omega
   simp[Kl,aD,X,e4,e2];refine sE o (by simp[i,F]) rfl rfl (by simp) (by simp[i]) (by simp[u]) rfl (nE _ _ w) (cells_one k _) (by simp) ?_;simp[e2,e5];exact d _ (aA.to [0,1,2,6,7,8] [((bG,0),bG)] (by simp[aD]))
  .have X:¬ (a:Int)+2*s<=(l.length:Int):=by omega
   have e4:IntKind.i64.wrap ((a:Int)+s)=((a+s:Nat):Int):=b5;clear d A Y;have d:∀ G:List α,G=ab key (2*s) l->∀ Q,aA Q (aD [(0,.own bG 0 0 l.length),(1,.p (.int .i64 l.length)),(2,.p (.fn cf [])),(6,.p (.int .i64 (2*s:Nat)))] [(bG,⟨I.z,aT G⟩)])->R .normal Q:=λG q2 Q O=>hn (G,2*s) Q O ⟨C,by simp only;omega,q2⟩ (by simp only;omega);simp[Kl,aD,X];refine al _ _ ?_;clear al;by_cases hm:a+s<l.length
   .have Z:(a:Int)+s<(l.length:Int):=by omega
    have U:=HR (key:=key) M (l:=l.drop a) (by rw[lp];omega);have N:ab key s ((l.drop a).drop s)=b6 key ((l.drop a).drop s):=yv (by rw[lp,lp];omega);have lX:(b6 key ((l.drop a).take s)).length=s:=by rw[(iQ _).2.1,tl];omega
    have lY:(b6 key ((l.drop a).drop s)).length=l.length - a - s:=by rw[(iQ _).2.1,lp,lp]
    have o:=L4 hI w k hD (2*s) (ab key (2*s) (l.take a)) (b6 key ((l.drop a).take s)) (b6 key ((l.drop a).drop s)) [] L a (a+s) l.length (by omega) (by rw[t,U,N];simp) (by omega) (by omega) (by omega) (iQ _).1 (iQ _).1
     (B _ λx h=>lu (jA h)) (B _ λx h=>lu (lu h)) lA.symm (by omega) (by omega)
    have f:ab key (2*s) (l.take a)++(b6 key (b6 key ((l.drop a).take s)++b6 key ((l.drop a).drop s))++[])=ab key (2*s) l:=by rw[R4,oJ,J,yv (s:=2*s) (l:=l.drop a) (by rw[lp];omega),kZ]
    rw[f]at o;have u:(ab key (2*s) l).length=l.length:=ym C l;have d:=d _ rfl;clear f U N J;simp[e4,Z];refine sE o (by simp[i,F]) rfl rfl (by simp) (by simp[i]) (by simp[u]) rfl (nE _ _ w) (cells_one k _) (by simp) ?_;simp[e3];exact d _ (aA.to [0,1,2,6] [((bG,0),bG)] (by simp[aD]))
   .have Z:¬ (a:Int)+s<(l.length:Int):=by omega
    have N:ab key s (l.drop a)=b6 key (l.drop a):=yv (by rw[lp];omega);have d:=d L (by rw[t,N,J,yv (s:=2*s) (l:=l.drop a) (by rw[lp];omega)]);simp[e4,Z,e3];exact d _ (aA.to [0,1,2,6] [((bG,0),bG)] (by simp[aD]))
def Oh{I:SI}(i:qQ I)(f:Enc.sz α = I.z)(d:∀ x : α,(enc x).cells.all PV.one=true){key : α -> List Int}{cf:FuncId}{D : α -> Prop}(k:∀ x y,D x->D y->∃ n:Int,Sp P cf [enc x,enc y] (.pure (.int .i64 n))/\(n<0 ↔ key x<key y))
  (l:List α) (h:l.length<=1000000) (j:∀ x∈l,D x):jD P I.so [.sl (aH l),.fn cf []] 0 I.z (aH (b6 key l)) (.pure (.bP [])):=by
 refine jD.cS i.so (by simp) rfl (by simp[(iQ l).2.1]) ?_;simp[ID];refine sE (W7 i f d k l h j) (by simp) rfl rfl (by simp) (by simp) (by simp[(iQ l).2.1]) rfl (nE _ _ f) (cells_one d _) (by simp) ?_;simp
end
end Go.Ab
namespace Go.Ab
open Go.Proofs
open Enc (enc)
abbrev mX:SI:=⟨12,by decide,262,192,162,161,121,72⟩
def c.wm:aV P mX.sw=some ⟨38,5,(IF mX).er,[]⟩:=by kernel_rfl
def c.wn:aV P mX.ro=some ⟨58,5,(IC mX).er,[]⟩:=by kernel_rfl
def c.wq:aV P mX.sm=some ⟨220,5,(Ef mX).er,[]⟩:=by kernel_rfl
def c.wr:aV P mX.ins=some ⟨53,4,(HT mX).er,[]⟩:=by kernel_rfl
def c.wu:aV P mX.st=some ⟨63,3,(IE mX).er,[]⟩:=by kernel_rfl
def c.wv:aV P mX.so=some ⟨9,2,(ID mX).er,[]⟩:=by kernel_rfl
def yds:qQ mX:=⟨c.wm,c.wn,c.wq,c.wr,c.wu,c.wv⟩
section
variable {α : Type} [Enc α]
def U6(h:Enc.sz α = 12)(d:∀ x : α,(enc x).cells.all PV.one=true){key : α -> List Int}{cf:FuncId}{D : α -> Prop}(j:∀ x y,D x->D y->∃ n:Int,Sp P cf [enc x,enc y] (.pure (.int .i64 n))/\(n<0 ↔ key x<key y))
  (l:List α) (f:l.length<=1000000) (i:∀ x∈l,D x):jD P 72 [.sl (aH l),.fn cf []] 0 12 (aH (b6 key l)) (.pure (.bP [])):=Oh yds h d j l f i
end
end Go.Ab
namespace Go.Ab
section
variable {α : Type} {key : α -> List Int} {up : α -> α -> α} {nw : α -> α}
theorem OG(x : α):∀ s:List α,(eo key s x).Perm (x::s)
 | []=>.refl _
 | z::r=>by
  unfold eo;split
  .exact .refl _
  .exact(List.Perm.cons z (OG x r)).trans (List.Perm.swap x z r)
def Ks(l:List α):(b6 key l).Perm l:=by
 have:∀ (l d:List α),(l.foldl (eo key) d).Perm (d++l):=by
  intro l
  induction l with
  | nil=>intro d;simp
  | cons x l f =>
   intro d;refine(f _).trans ?_;refine(List.Perm.append_right l (OG x d)).trans ?_;exact(List.perm_middle (l₁ := d) (l₂ := l) (a:=x)).symm
 have h:=this l [];rw[uJ]at h;exact h
theorem Nv:∀ {d:List α} {x y : α},x∈iv key up nw d y->x∈d\/x=nw y\/∃ z∈d,key z=key y/\x=up z y
 | [],x,y,h=>by simp[iv]at h;exact .inr (.inl h)
 | [z],x,y,h=>by
  simp only[iv]at h;split at h
  .rename_i f;simp at h;exact .inr (.inr ⟨z,by simp,f,h⟩)
  .simp at h;obtain h|h:=h
   .exact .inl (by simp[h])
   .exact .inr (.inl h)
 | z::w::r,x,y,h=>by
  rw[C0 z y (by simp)]at h;obtain h|h:=bY.1 h
  .exact .inl (by simp[h])
  .obtain h|h|⟨u,h,e⟩:=Nv h
   .exact .inl (tV _ h)
   .exact .inr (.inl h)
   .exact .inr (.inr ⟨u,tV _ h,e⟩)
theorem OE:∀ {d:List α} {x y : α},x∈eQ key up nw d y->x∈d\/x=nw y\/∃ z∈d,key z=key y/\x=up z y
 | [],x,y,h=>by simp[eQ]at h;exact .inr (.inl h)
 | z::r,x,y,h=>by
  simp only[eQ]at h;split at h
  .obtain h|h:=bY.1 h
   .exact .inl (by simp[h])
   .obtain h|h|⟨u,h,e⟩:=OE h
    .exact .inl (tV _ h)
    .exact .inr (.inl h)
    .exact .inr (.inr ⟨u,tV _ h,e⟩)
  .split at h
   .rename_i f;obtain h|h:=bY.1 h
    .exact .inr (.inr ⟨z,by simp,f,h⟩)
    .exact .inl (tV _ h)
   .obtain h|h:=bY.1 h
    .exact .inr (.inl h)
    .exact .inl h
def kc(key : α -> List Int)(l:List α)(q:List Int):Nat:=l.countP λx=>decide (key x=q)
def Rn{l:List α}{k:Nat}(h:k<l.length)(q:List Int):kc key (l.take (k+1)) q=kc key (l.take k) q+if key l[k]=q then 1 else 0:=by
 unfold kc;rw[ed h,List.countP_append]
 congr 1
 by_cases d:key l[k]=q<;>simp[d]
def Ro(l:List α)(k:Nat)(q:List Int):kc key (l.take k) q<=kc key l q:=List.Sublist.countP_le (H9 k l)
def Jk{l r:List α}(h:l.Perm r)(q:List Int):kc key l q=kc key r q:=h.countP_eq _
variable (tY:∀ a b,key (up a b)=key a) (sd:∀ a,key (nw a)=key a)
include tY sd
theorem Ru{Q:Nat -> α -> Prop}(i:∀ {c d:Nat} {x : α},Q c x->c<=d->Q d x){l:List α}(hn:∀ x∈l,Q 0 (nw x))(hu:∀ c z,∀ x∈l,key z=key x->Q c z->Q (c+1) (up z x)) :
  ∀ k,k<=l.length->∀ x∈fN key up nw (l.take k),Q (kc key (l.take k) (key x)) x
 | 0,_=>by simp[fN]
 | k+1,h=>by
  have f:k<l.length:=by omega
  have j:=Ru (Q:=Q) i hn hu k (z6 f);rw[HM f];intro x m;rw[Rn f];obtain h|h|⟨z,h,e,rfl⟩:=Nv m
  .exact i (j x h) (by omega)
  .rw[h];exact i (hn _ (bV f)) (by omega)
  .rw[tY,aW e.symm];exact hu _ _ _ (bV f) e (j z h)
theorem RA{Q:Nat -> α -> Prop}(i:∀ {c d:Nat} {x : α},Q c x->c<=d->Q d x){l:List α}(hn:∀ x∈l,Q 0 (nw x))(hu:∀ c z,∀ x∈l,key z=key x->Q c z->Q (c+1) (up z x)) :
  ∀ k,k<=l.length->∀ x∈sc key up nw (l.take k),Q (kc key (l.take k) (key x)) x
 | 0,_=>by simp[sc]
 | k+1,h=>by
  have f:k<l.length:=by omega
  have j:=RA (Q:=Q) i hn hu k (z6 f);rw[HK f];intro x m;rw[Rn f];obtain h|h|⟨z,h,e,rfl⟩:=OE m
  .exact i (j x h) (by omega)
  .rw[h];exact i (hn _ (bV f)) (by omega)
  .rw[tY,aW e.symm];exact hu _ _ _ (bV f) e (j z h)
theorem RB(l:List α):∀ k,k<=l.length->(sc key up nw (l.take k)).length<=k
 | 0,_=>by simp[sc]
 | k+1,h=>by rw[HK (by omega)];have:=Qj (key:=key) (up:=up) (nw:=nw) (sc key up nw (l.take k)) (l[k]'(by omega));have:=RB l k (by omega);omega
theorem Jn(l:List α):∀ k,k<=l.length->(fN key up nw (l.take k)).length<=k
 | 0,_=>by simp[fN]
 | k+1,h=>by rw[HM (by omega)];have:=Lq (key:=key) (up:=up) (nw:=nw) (fN key up nw (l.take k)) (l[k]'(by omega));have:=Jn l k (by omega);omega
end
end Go.Ab
namespace Go.Ab
open Enc (enc)
attribute [local simp] fX bL.aR
def qu:List Int->List GW->List GW->List GW
 | k::d,v::f,w::h=>gK k v w::qu d f h
 | _,_,_=>[]
def aB.times(r:aB)(v w:GW):GW:=if r.kind=6 then .mk dI 0 false 0 [] (qu r.parts v.parts w.parts)else gK r.kind v w
theorem Fh:∀ {ks:List Int} {vs ws:List GW},vs.length=ks.length->ws.length=ks.length->(qu ks vs ws).length=ks.length
 | [],vs,ws,_,_=>by simp[qu]
 | k::ks,[],ws,h,_=>by simp at h
 | k::ks,v::vs,[],_,h=>by simp at h
 | k::ks,v::vs,w::ws,d,f=>by simp[qu,Fh (ks:=ks) (vs:=vs) (ws:=ws) (by simpa using d) (by simpa using f)]
theorem Fg:∀ {ks:List Int} {vs ws:List GW} {i:Nat} (h:i<ks.length) (d:i<vs.length) (f:i<ws.length) (j:i<(qu ks vs ws).length),(qu ks vs ws)[i]=gK ks[i] vs[i] ws[i]
 | k::ks,v::vs,w::ws,0,_,_,_,_=>by simp[qu]
 | k::ks,v::vs,w::ws,i+1,h,d,f,j=>by simp only[qu,List.getElem_cons_succ];exact Fg (by simpa using h) (by simpa using d) (by simpa using f) (by simpa[qu]using j)
def VM(r:aB)(v w:GW)(M:v.sm 1048576)(N:w.sm 1048576)(u:v.aQ r)(B:w.aQ r)(l:r.kind=6)
  (j:∀ i (h:i<r.parts.length) (G:i<v.parts.length) (X:i<w.parts.length),zS 32 [enc (⟨r.parts[i],[]⟩:aB),enc v.parts[i],enc w.parts[i]] (enc (gK r.parts[i] v.parts[i] w.parts[i]))) :
  zS 32 [enc r,enc v,enc w] (enc (r.times v w)):=by
 have t:=u.1;have J:=aB.bQ t l;have V:v.tk r=v:=aW u;have W:w.tk r=w:=aW B;have C:=mR r v (M.mono (by omega));have D:=mR r w (N.mono (by omega));rw[V]at C;rw[W]at D;have Q:=(u.2.2 l).1;have U:=(B.2.2 l).1;have Z:(qu r.parts v.parts w.parts).length=r.parts.length:=Fh Q U;refine Sp.vz c.aa λ_=>?_;simp[g.aa];refine bF (oQ r) rfl ?_;simp[t];refine bA C ?_;simp;refine bA D ?_;simp[l]
 refine cQ (S:=λk:Nat=>aD [(3,.ptr 1 0 0 0),(4,.ptr 2 0 0 0),(5,.ptr 3 0 0 0),(6,.ptr 4 0 0 0),(7,.ptr 5 0 0 0),(8,.p (.int .i64 k))]
   [(1,⟨2,[.p (enc r)]⟩),(2,⟨8,[.p (enc v)]⟩),(3,⟨8,[.p (enc w)]⟩),(4,⟨8,[.agg [.p (.bool false),.nil,.nil,.p (.int .i64 0),.p (.bool false),.p (.int .u64 0),.nil,.nil]]⟩),
    (5,⟨8,[.agg [.p (.bool false),.nil,.nil,.p (.int .i64 0),.p (.bool false),.p (.int .u64 0),.nil,.own 6 0 0 k]]⟩),(6,⟨8,aT ((qu r.parts v.parts w.parts).take k)⟩)])
  (I:=λk=>k<=r.parts.length) (m:=λk=>r.parts.length - k) 0
  ((aA.cW (s0:=7) (g0:=0) (i:=7) (s:=77) (sz:=8) rfl).trans (aA.to [3,4,5,6,7,8] [((3,0),1),((4,0),2),((5,0),3),((6,0),4),((7,0),5),((77,0),6)] (by simp[l]))) (by omega) ?_
 rintro k G R y Y O;have F:=bH k;simp[g.sr,aD];refine⟨λn=>?_,λn=>O _ _ ?_⟩
 .have d:k<v.parts.length:=by omega
  have f:k<w.parts.length:=by omega
  have K:=J.2.2 _ (bV n);refine bF (EY r k n) rfl ?_;simp;refine bK d ?_
  try simp
  refine bK f ?_
  try simp
  refine bA (j k n d f) ?_;have o:k<(qu r.parts v.parts w.parts).length:=by omega
  have A:aT ((qu r.parts v.parts w.parts).take (k+1))=aT ((qu r.parts v.parts w.parts).take k)++[.p (enc (gK r.parts[k] v.parts[k] w.parts[k]))]:=by rw[ed o,zX,Fg n d f o];rfl
  simp[F];exact⟨⟨by omega,by omega⟩,y (k+1) _ (aA.to [3,4,5,6,7,8] [((1,0),1),((2,0),2),((3,0),3),((4,0),4),((5,0),5),((94,0),6)] (by simp[A])) (by omega) (by omega)⟩
 .have x:k=(qu r.parts v.parts w.parts).length:=by omega
  have z:r.times v w=.mk dI 0 false 0 [] (qu r.parts v.parts w.parts):=by simp[aB.times,l]
  rw[z];subst x;simp
end Go.Ab
namespace Go.Ab
open Enc (enc)
def mD(n:Nat):Nat:=6^n
def mB(n:Nat):Nat:=6291456^n
def SY(n:Nat):mD n≠0:=FC.1 (qU (by omega))
def qm(n:Nat)(q:Rat):Prop:=qb (mD n) (mB n) q
def RU{m n:Nat}{q:Rat}(h:qm m q)(k:m<=n):qm n q:=by obtain⟨j,rfl⟩:=Nat.le.dest k;have d:=C8 (6^j) (FC.1 (qU (by omega))) h;unfold qm mD mB;rw[rM,rM];exact qA d (yF _ (L8 (by omega) j))
def yp(n:Nat):qm n 0:=qA (CX _) (rK _)
structure GW.xu (n:Nat) (w:GW):Prop where
 q:qm n w.q.v
 p:∀ e,qm n (pc w.aP e)
structure GW.mb (n:Nat) (w:GW):Prop where
 o:w.xu n
 ps:∀ x∈w.parts,x.xu n
def GW.xu.mono{m n:Nat}{w:GW}(h:w.xu m)(k:m<=n):w.xu n:=⟨RU h.q k,λe=>RU (h.p e) k⟩
def GW.mb.mono{m n:Nat}{w:GW}(h:w.mb m)(k:m<=n):w.mb n:=⟨h.o.mono k,λx d=>(h.ps x d).mono k⟩
def CS(n c i s):(GW.mk dI c i s [] []).xu n:=⟨by show qm n dI.v;rw[uZ];exact yp n,λe=>yp n⟩
def Kq(n c i s ps):(GW.mk dI c i s [] ps).xu n:=⟨by show qm n dI.v;rw[uZ];exact yp n,λe=>yp n⟩
def U3{p q:Rat}(f:0<=p)(h:p<=1)(j:0<=q)(i:q<=1):p*q<=1:=by have d:p*q<=p*1:=Rat.mul_le_mul_of_nonneg_left i f;rw[Rat.mul_one]at d;exact Rat.le_trans d h
def K7{k:Int}(D:1<=k/\k<=5){v w:GW}(i:v.si k)(j:w.si k):(gK k v w).si k:=by
 have:k=1\/k=2\/k=3\/k=4\/k=5:=by omega
 obtain rfl|rfl|rfl|rfl|rfl:=this
 .rw[wB];exact⟨rfl,rfl,rfl,rfl,rfl,sP _⟩
 .obtain⟨l,m,n,o,p,r,d⟩:=oV.1 i;obtain⟨u,x,y,z,A,B,f⟩:=oV.1 j;unfold gK;rw[aY (by omega),aW rfl];split
  .rw[oV];exact⟨rfl,rfl,rfl,rfl,Int.le_refl 0,by show(0:Int)<=1099511627776;omega,λ_=>rfl⟩
  .rename_i h;rw[oV];exact⟨rfl,rfl,rfl,rfl,by show 0<=v.cost+w.cost;omega,by show v.cost+w.cost<=1099511627776;omega,λh=>by cases h⟩
 .obtain⟨l,m,n,o,p,r,d,t⟩:=vG.1 i;obtain⟨u,x,y,z,A,B,f,C⟩:=vG.1 j;rw[vG];refine⟨rfl,rfl,rfl,rfl,rfl,sP _,?_,?_⟩
  .show 0<=(cH (v.q.v*w.q.v)).v;rw[iN];exact Rat.mul_nonneg d f
  .show(cH (v.q.v*w.q.v)).v<=1;rw[iN];exact U3 d t f C
 .rw[yU];exact⟨rfl,rfl,rfl,rfl,rfl⟩
 .rw[xV];exact⟨rfl,rfl,rfl,rfl,rfl,xK _ _⟩
def Dn{r:aB}{v w:GW}(f:v.aQ r)(j:w.aQ r):(r.times v w).aQ r:=by
 by_cases d:r.kind=6
 .have m:=aB.bQ f.1 d;have n:=(f.2.2 d).1;have o:=(j.2.2 d).1;refine⟨f.1,λh=>absurd d h,λ_=>?_⟩;have e:r.times v w=.mk dI 0 false 0 [] (qu r.parts v.parts w.parts):=by simp[aB.times,d]
  rw[e];refine⟨Fh n o,rfl,λi h k=>?_⟩;simp only[GW.c6]at k ⊢;rw[Fg h (by omega) (by omega) k];exact K7 (m.2.2 _ (bV h)) ((f.2.2 d).2.2 i h (by omega)) ((j.2.2 d).2.2 i h (by omega))
 .have l:=aB.cC f.1 d;have e:r.times v w=gK r.kind v w:=by simp[aB.times,d]
  rw[e];exact⟨f.1,λ_=>K7 ⟨l.1,l.2.1⟩ (f.2.1 d) (j.2.1 d),λh=>absurd h d⟩
def pD:Nat:=2^100
def ycc:0<pD:=qU (by omega)
def Q5:pD<4294967296^4:=by unfold pD;decide +kernel
structure LB (E H s:Nat):Prop where
 e:0<E
 h:pD*E<=H
 el:E<4294967296^s
 hl:H<4294967296^(s+8)
 s:s<=8000
def qL(E H n:Nat)(q:Rat):Prop:=∃ B,qb (E^(n / 100)) B q/\46656*B<=H^(n / 100)*2^(n % 100)
section
variable {E H s:Nat} (L:LB E H s)
include L in
theorem LB.xy(n:Nat):E^n≠0:=FC.1 (qU L.e)
include L in
theorem Mt:∀ (c k a B:Nat) {q:Rat},k<100*c+100->qb (E^a) B q->46656*B<=H^a*2^k->qL E H (100*a+k) q
 | 0,k,a,B,q,n,f,i=>by
  have d:(100*a+k) / 100=a:=by omega
  have l:(100*a+k) % 100=k:=by omega
  exact⟨B,by rw[d];exact f,by rw[d,l];exact i⟩
 | c+1,k,a,B,q,n,f,i=>by
  by_cases o:k<100
  .exact Mt 0 k a B (by omega) f i
  .have j:=C8 E (FC.1 L.e) f;rw[<- Nat.pow_succ]at j;have m:46656*(B*E)<=H^(a+1)*2^(k - 100):=by
    have d:2^k=2^(k - 100)*pD:=by unfold pD;rw[<- Nat.pow_add];congr 1;omega
    calc 46656*(B*E)=46656*B*E:=by rw[pS]
     _<=H^a*2^k*E:=kD _ i
     _=H^a*2^(k - 100)*(pD*E):=by rw[d];simp only[pS]
     _<=H^a*2^(k - 100)*H:=yF _ L.h
     _=H^(a+1)*2^(k - 100):=by rw[kE];ac_rfl
   have:=Mt c (k - 100) (a+1) (B*E) (by omega) j m;have e:100*(a+1)+(k - 100)=100*a+k:=by omega
   rwa[e]at this
include L in
theorem z93(k a B:Nat){q:Rat}(d:qb (E^a) B q)(f:46656*B<=H^a*2^k):qL E H (100*a+k) q:=Mt L k k a B (by omega) d f
include L in
theorem GN{m n:Nat}{q:Rat}(h:qL E H m q)(k:m<=n):qL E H n q:=by
 obtain⟨B,d,f⟩:=h;obtain⟨j,rfl⟩:=Nat.le.dest k;have:=z93 L (m % 100+j) (m / 100) B d (dP f (yF _ (pP (by omega) (by omega))));have e:100*(m / 100)+(m % 100+j)=m+j:=by omega
 rwa[e]at this
def zu(n:Nat):qL E H n 0:=⟨0,CX _,by omega⟩
include L in
theorem Tl{m:Nat}{p q:Rat}(h:qL E H m p)(i:qL E H m q):qL E H (m+1) (p+q):=by
 obtain⟨B,j,l⟩:=h;obtain⟨f,d,k⟩:=i;have:=z93 L (m % 100+1) (m / 100) (B+f) (Gk j d (L.xy _)) (by rw[kE,<- Nat.mul_assoc];omega);have e:100*(m / 100)+(m % 100+1)=m+1:=by omega
 rwa[e]at this
def KT{A B C D:Nat}(d:46656*A<=C)(f:46656*B<=D):46656*(46656*(A*B))<=C*D:=by
 have:=mS d f;have e:46656*A*(46656*B)=46656*(46656*(A*B)):=by ac_rfl
 omega
include L in
theorem Tm{m n B:Nat}{q:Rat}(d:qb (E^(m / 100)*E^(n / 100)) B q)(f:46656*B<=H^(m / 100)*2^(m % 100)*(H^(n / 100)*2^(n % 100))):qL E H (m+n) q:=by
 rw[<- Nat.pow_add]at d;have:=z93 L (m % 100+n % 100) (m / 100+n / 100) B d (by
  refine dP f (zZ ?_);rw[rM,rM];ac_rfl)
 have e:100*(m / 100+n / 100)+(m % 100+n % 100)=m+n:=by omega
 rwa[e]at this
include L in
theorem YL{m n:Nat}{p q:Rat}(h:qL E H m p)(i:qL E H n q):qL E H (m+n) (p*q):=by obtain⟨B,j,k⟩:=h;obtain⟨l,d,f⟩:=i;have o:=KT k f;exact Tm L (To j d) (by omega)
def jB(s n:Nat):Nat:=(n / 100)*(s+8)+5
include L in
theorem CD(n:Nat):E^(n / 100)<4294967296^jB s n:=by
 have d:E^(n / 100)<=(4294967296^s)^(n / 100):=L8 (z6 L.el) _;rw[<- Nat.pow_mul]at d;refine oR d (Ia (by omega) ?_);unfold jB;have:s*(n / 100)<=(n / 100)*(s+8):=by rw[oH];exact yF _ (by omega)
 omega
include L in
theorem wR(n:Nat):H^(n / 100)*2^(n % 100)<4294967296^jB s n:=by
 have d:H^(n / 100)<=(4294967296^(s+8))^(n / 100):=L8 (z6 L.hl) _;rw[<- Nat.pow_mul]at d;have f:2^(n % 100)<4294967296^4:=oR (show 2^(n % 100)<=pD from pP (by omega) (by omega)) Q5;have e:jB s n=(s+8)*(n / 100)+4+1:=by unfold jB;rw[oH]
 rw[e,kE,rM];have h:H^(n / 100)*2^(n % 100)<=4294967296^((s+8)*(n / 100))*4294967296^4:=mS d (z6 f);have i:0<4294967296^((s+8)*(n / 100))*4294967296^4:=Be (qU (by omega)) (qU (by omega));omega
structure GW.qN (E H n:Nat) (w:GW):Prop where
 q:qL E H n w.q.v
 p:∀ e,qL E H n (pc w.aP e)
structure GW.lb (E H n:Nat) (w:GW):Prop where
 o:w.qN E H n
 ps:∀ x∈w.parts,x.qN E H n
include L in
theorem GW.qN.mono{m n:Nat}{w:GW}(h:w.qN E H m)(k:m<=n):w.qN E H n:=⟨GN L h.q k,λe=>GN L (h.p e) k⟩
include L in
theorem GW.lb.mono{m n:Nat}{w:GW}(h:w.lb E H m)(k:m<=n):w.lb E H n:=⟨h.o.mono L k,λx d=>(h.ps x d).mono L k⟩
def Es(n c i s):(GW.mk dI c i s [] []).qN E H n:=⟨by show qL E H n dI.v;rw[uZ];exact zu n,λe=>zu n⟩
def Ko(n c i s ps):(GW.mk dI c i s [] ps).qN E H n:=⟨by show qL E H n dI.v;rw[uZ];exact zu n,λe=>zu n⟩
def xD{n:Nat}{p:List aF}(h:∀ e,qL E H n (pc p e)):jU (E^(n / 100)) (H^(n / 100)*2^(n % 100) / 46656) p:=λe=>by obtain⟨B,d,f⟩:=h e;exact qA d ((Ij (by omega)).2 (by omega))
include L in
theorem CK{k:Int}{w:GW}{n:Nat}(hs:w.si k)(h:w.qN E H n)(hn:216<=jB s n):w.sm (jB s n):=by
 have o:=Cl hs;have d:=jJ hs;cases w with
 | mk q c i t p r =>
  have e:r=[]:=hs.1;subst e;have m:H^(n / 100)*2^(n % 100) / 46656<4294967296^jB s n:=oR (Bd _ _) (wR L n);have j:q.sm (jB s n):=by
   obtain⟨B,f,u⟩:=h.q;have:=Fw f (L.xy _) (CD L n) (oR (show B<=_ by omega) (wR L n))
   rwa[show cH (GW.q (GW.mk q c i t p [])).v=q from sK o]at this
  have l:fR p (jB s n):=yo (xD h.p) d (L.xy _) (CD L n) m;exact .mk j l (by have:p.length<=216:=qS d;omega) (by simp) (by simp)
include L in
theorem zd{r:aB}{w:GW}{n:Nat}(f:w.aQ r)(h:w.lb E H n)(hn:216<=jB s n):w.sm (jB s n):=by
 by_cases d:r.kind=6
 .obtain⟨l,e,m⟩:=f.2.2 d;have p:=aB.bQ f.1 d;rw[e];refine .bP (by omega) λx j=>?_;obtain⟨i,k,rfl⟩:=sQ.1 j;exact CK L (m i (by omega) k) (h.ps _ j) hn
 .exact CK L (f.2.1 d) h.o hn
include L in
theorem NK{k:Int}{v w:GW}{n:Nat}(i:v.si k)(h:w.si k)(d:v.qN E H n)(f:w.qN E H n):(ew k v w).qN E H (n+1):=by
 unfold ew;split
 .exact⟨by show qL E H (n+1) (cH (v.q.v+w.q.v)).v;rw[iN];exact Tl L d.q f.q,λe=>zu _⟩
 .split
  .split
   .exact f.mono L (by omega)
   .exact d.mono L (by omega)
  .split
   .split
    .exact f.mono L (by omega)
    .exact d.mono L (by omega)
   .split
    .exact Es ..
    .refine⟨by show qL E H _ dI.v;rw[uZ];exact zu _,λe=>?_⟩;show qL E H (n+1) (pc (eF v.aP w.aP) e);rw[zr v.aP (iq.1 (jJ h)).1];exact Tl L (d.p e) (f.p e)
include L in
theorem Pm{k:Int}{v w:GW}{m n:Nat}(u:v.si k)(x:w.si k)(d:v.qN E H m)(f:w.qN E H n):(gK k v w).qN E H (m+n+1):=by
 unfold gK;split
 .exact⟨by show qL E H _ (cH (v.q.v*w.q.v)).v;rw[iN];exact GN L (YL L d.q f.q) (by omega),λe=>zu _⟩
 .split
  .split
   .exact Es ..
   .exact Es ..
  .split
   .exact Es ..
   .refine⟨by show qL E H _ dI.v;rw[uZ];exact zu _,λe=>?_⟩;show qL E H _ (pc (fA v.aP w.aP) e);have pv:=jJ u;have h:=jJ x;have l:=EL (yy (xD d.p) pv) (yy (xD f.p) h) (yE (L.xy _) (L.xy _)) e;have r:=qS pv;have t:=qS h;have i:=H6 (H^(m / 100)*2^(m % 100)) 46656;have j:=H6 (H^(n / 100)*2^(n % 100)) 46656;have o:=KT i j;refine GN L (Tm L l (dP (yF _ ?_) o)) (by omega);generalize H^(m / 100)*2^(m % 100) / 46656*(H^(n / 100)*2^(n % 100) / 46656)=C;have y:v.aP.length*(w.aP.length*C)<=216*(216*C):=mS r (kD _ t);omega
include L in
theorem Z1{r:aB}{v w:GW}{n:Nat}(f:v.aQ r)(h:w.aQ r)(p:v.lb E H n)(t:w.lb E H n):(r.plus v w).lb E H (n+1):=by
 by_cases d:r.kind=6
 .have u:=(f.2.2 d).1;have y:=(h.2.2 d).1;have e:r.plus v w=.mk dI 0 false 0 [] (oB r.parts v.parts w.parts):=by simp[aB.plus,d]
  rw[e];have A:=vl (ks:=r.parts) (vs:=v.parts) (ws:=w.parts) u y;refine⟨Ko ..,λx j=>?_⟩;obtain⟨i,l,rfl⟩:=sQ.1 j;simp only[GW.c6]at l;have k:i<r.parts.length:=by omega
  have:=xk k (by omega:i<v.parts.length) (by omega:i<w.parts.length) l;simp only[GW.c6];rw[this];exact NK L ((f.2.2 d).2.2 i k (by omega)) ((h.2.2 d).2.2 i k (by omega)) (p.ps _ (bV _)) (t.ps _ (bV _))
 .have m:=aB.cC f.1 d;have e:r.plus v w=ew r.kind v w:=by simp[aB.plus,d]
  have z:=xJ ⟨m.1,m.2.1⟩ (f.2.1 d) (h.2.1 d);rw[e];exact⟨NK L (f.2.1 d) (h.2.1 d) p.o t.o,λx j=>by rw[z.1]at j;cases j⟩
include L in
theorem VP{r:aB}{v w:GW}{m n:Nat}(f:v.aQ r)(h:w.aQ r)(t:v.lb E H m)(u:w.lb E H n):(r.times v w).lb E H (m+n+1):=by
 by_cases d:r.kind=6
 .have y:=(f.2.2 d).1;have z:=(h.2.2 d).1;have e:r.times v w=.mk dI 0 false 0 [] (qu r.parts v.parts w.parts):=by simp[aB.times,d]
  rw[e];have B:=Fh (ks:=r.parts) (vs:=v.parts) (ws:=w.parts) y z;refine⟨Ko ..,λx j=>?_⟩;obtain⟨i,l,rfl⟩:=sQ.1 j;simp only[GW.c6]at l;have k:i<r.parts.length:=by omega
  have:=Fg k (by omega:i<v.parts.length) (by omega:i<w.parts.length) l;simp only[GW.c6];rw[this];exact Pm L ((f.2.2 d).2.2 i k (by omega)) ((h.2.2 d).2.2 i k (by omega)) (t.ps _ (bV _)) (u.ps _ (bV _))
 .have p:=aB.cC f.1 d;have e:r.times v w=gK r.kind v w:=by simp[aB.times,d]
  have A:=K7 ⟨p.1,p.2.1⟩ (f.2.1 d) (h.2.1 d);rw[e];exact⟨Pm L (f.2.1 d) (h.2.1 d) t.o u.o,λx j=>by rw[A.1]at j;cases j⟩
end
theorem TF{v w:GW}(d:v.q=w.q)(f:v.cost=w.cost)(h:v.inf=w.inf)(i:v.set=w.set)(j:v.aP=w.aP)(k:v.parts=w.parts):v=w:=by cases v;cases w;simp only[GW.qI,GW.kA,GW.jX,GW.set_mk,GW.gP,GW.c6]at d f h i j k;subst d f h i j k;rfl
def Ym{x y:aS}(d:x.valid=true)(f:y.valid=true)(h:x.v=y.v):x=y:=by rw[<- sK d,<- sK f,h]
def rO(w:GW):Int:=if w.inf then 1099511627777 else w.cost
def N7{v w:GW}(n:v.si 2)(o:w.si 2)(h:rO v=rO w):v=w:=by
 obtain⟨i,j,k,l,y,z,m⟩:=oV.1 n;obtain⟨p,r,t,u,A,B,x⟩:=oV.1 o;unfold rO at h;refine TF (j.trans r.symm) ?_ ?_ (k.trans t.symm) (l.trans u.symm) (i.trans p.symm)
 .cases d:v.inf<;>cases f:w.inf<;>simp[d,f]at h<;>try omega
  rw[m d,x f]
 .cases d:v.inf<;>cases f:w.inf<;>simp[d,f]at h<;>first|rfl|omega
def Dp{v w:GW}(h:v.si 2)(i:w.si 2):rO (ew 2 v w)=if rO w<rO v then rO w else rO v:=by obtain⟨j,k,l,m,n,o,p⟩:=oV.1 h;obtain⟨r,t,u,x,y,z,A⟩:=oV.1 i;unfold ew;rw[aY (by omega),aW rfl];unfold rO;cases d:v.inf<;>cases f:w.inf<;>simp[d,f]<;>(try split)<;>simp_all<;>omega
def UA{a b c:Rat}(h:a<b)(k:b<c):a<c:=Rat.not_le.1 λe=>Cd.2 (Rat.le_trans (Rat.le_of_lt k) e) h
def WT{a b c:Rat}(h:a<=b)(k:b<c):a<c:=Rat.not_le.1 λe=>Rat.not_le.2 k (Rat.le_trans e h)
def LX(x y:GW):ew 3 x y=if x.q.v<y.q.v then y else x:=by simp[ew]
def PK{k:Int}(h:1<=k/\k<=5){v w:GW}(d:v.si k)(f:w.si k):ew k v w=ew k w v:=by
 have:k=1\/k=2\/k=3\/k=4\/k=5:=by omega
 obtain rfl|rfl|rfl|rfl|rfl:=this
 .simp only[ew,cB,Bb]
 .refine N7 (xJ h d f) (xJ h f d) ?_;rw[Dp d f,Dp f d];split<;>split<;>omega
 .obtain⟨j,l,m,n,o,p,A,B⟩:=vG.1 d;obtain⟨r,t,u,x,y,z,C,D⟩:=vG.1 f;rw[LX,LX];by_cases a:v.q.v<w.q.v
  .rw[aW a,aY (Cd.2 (Rat.le_of_lt a))]
  .by_cases b:w.q.v<v.q.v
   .rw[aY a,aW b]
   .rw[aY a,aY b];have e:v.q.v=w.q.v:=Rat.le_antisymm (Cd.1 b) (Cd.1 a);exact TF (Ym p z e) (m.trans u.symm) (l.trans t.symm) (n.trans x.symm) (o.trans y.symm) (j.trans r.symm)
 .simp[ew,UInt64.or_comm]
 .have pv:=jJ d;have i:=jJ f;have e:eF v.aP w.aP=eF w.aP v.aP:=GP (xg _ pv) (xg _ i) λe=>by rw[zr _ (iq.1 i).1,zr _ (iq.1 pv).1,Bb]
  simp[ew,e]
def QA{k:Int}(f:1<=k/\k<=5){u v w:GW}(hu:u.si k)(d:v.si k)(h:w.si k):ew k (ew k u v) w=ew k u (ew k v w):=by
 have:k=1\/k=2\/k=3\/k=4\/k=5:=by omega
 obtain rfl|rfl|rfl|rfl|rfl:=this
 .simp only[ew,cB,GW.qI,iN,yK]
 .refine N7 (xJ f (xJ f hu d) h) (xJ f hu (xJ f d h)) ?_;rw[Dp (xJ f hu d) h,Dp hu d,Dp hu (xJ f d h),Dp d h]
  repeat' split
  all_goals omega
 .have s:=LX;rw[s u v,s v w];by_cases a:u.q.v<v.q.v
  .rw[aW a];by_cases b:v.q.v<w.q.v
   .rw[aW b,s v w,s u w,aW b,aW (UA a b)]
   .rw[aY b,s v w,s u v,aY b,aW a]
  .rw[aY a];by_cases b:v.q.v<w.q.v
   .rw[aW b]
   .rw[aY b,s u w,s u v,aY a,aY];intro c;exact b (WT (Cd.1 a) c)
 .simp[ew,GW.set_mk,UInt64.or_assoc]
 .have i:=jJ hu;have pv:=jJ d;have j:=jJ h;have e:eF (eF u.aP v.aP) w.aP=eF u.aP (eF v.aP w.aP):=GP (xg _ (xg _ i)) (xg _ i) λe=>by rw[zr _ (iq.1 j).1,zr _ (iq.1 pv).1,zr _ (iq.1 (xg _ pv)).1,zr _ (iq.1 j).1,yK]
  simp[ew,GW.gP,e]
def XH:∀ {ks:List Int} {vs ws:List GW},(∀ k∈ks,1<=k/\k<=5)->vs.length=ks.length->ws.length=ks.length->(∀ i,(h:i<ks.length)->(m:i<vs.length)->vs[i].si ks[i])->(∀ i,(h:i<ks.length)->(m:i<ws.length)->ws[i].si ks[i])->oB ks vs ws=oB ks ws vs:=by
 intro ks vs ws o j l p r;refine B4 (by rw[vl j l,vl l j]) λi f n=>?_;have d:i<ks.length:=by rw[vl j l]at f;exact f
 rw[xk d (by omega) (by omega) f,xk d (by omega) (by omega) n];exact PK (o _ (bV d)) (p i d (by omega)) (r i d (by omega))
def Hp{r:aB}{v w:GW}(f:v.aQ r)(h:w.aQ r):r.plus v w=r.plus w v:=by
 by_cases d:r.kind=6
 .have j:=aB.bQ f.1 d;obtain⟨k,_,m⟩:=f.2.2 d;obtain⟨l,_,n⟩:=h.2.2 d;simp only[aB.plus,aW d,XH j.2.2 k l m n]
 .have i:=aB.cC f.1 d;simp only[aB.plus,aY d];exact PK ⟨i.1,i.2.1⟩ (f.2.1 d) (h.2.1 d)
def Dx{r:aB}{u v w:GW}(n:u.aQ r)(j:v.aQ r)(o:w.aQ r):r.plus (r.plus u v) w=r.plus u (r.plus v w):=by
 by_cases d:r.kind=6
 .have z:=aB.bQ j.1 d;obtain⟨t,_,A⟩:=n.2.2 d;obtain⟨x,_,B⟩:=j.2.2 d;obtain⟨m,_,C⟩:=o.2.2 d;simp only[aB.plus,aW d,GW.c6]
  congr 1
  have h:=vl t x;have l:=vl x m;refine B4 (by rw[vl h m,vl t l]) λi k y=>?_;have f:i<r.parts.length:=by rw[vl h m]at k;exact k
  rw[xk f (by omega) (by omega) k,xk f (by omega) (by omega) y,xk f (by omega) (by omega) (by omega),xk f (by omega) (by omega) (by omega)];exact QA (z.2.2 _ (bV f)) (A i f (by omega)) (B i f (by omega)) (C i f (by omega))
 .have p:=aB.cC j.1 d;simp only[aB.plus,aY d];exact QA ⟨p.1,p.2.1⟩ (n.2.1 d) (j.2.1 d) (o.2.1 d)
end Go.Ab
