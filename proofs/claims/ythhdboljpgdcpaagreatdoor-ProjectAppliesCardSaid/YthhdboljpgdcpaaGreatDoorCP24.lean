/- Lemmas for the law ProjectApplies, part 24. No conditions. -/
import Derived.Test.YthhdboljpgdcpaaGreatDoorCP23
set_option maxRecDepth 100000
set_option maxHeartbeats 4000000
set_option linter.all false
namespace Go.Ab
open Enc (enc)
def Vt(a:aU)(h:a.sm 1048576)(t:a.aD.length<=100000){v0:GTrans}{l:Int}(j:zS 24 [enc a.oP] (.bM [enc v0,.int .i64 l])) :
  zS 49 [enc a] (.bM [enc (if a.vb then v0 else nJ),.int .i64 (if a.vb then l else 4)]):=by
 refine Sp.vz c.jj λ_=>?_;simp[g.jj];refine aW (Mn a h) ?_;cases x:a.vb
 .simp[nJ]
 simp
 refine b6 (S:=λk:Nat=>aB [(2,.ptr 1 0 0 0),(4,.ptr 2 0 0 0),(25,.p (.sl (ens a.aD))),(26,.p (.int .i64 a.aD.length)),(27,.p (.int .i64 k))]
   [(1,⟨8,[.agg [.p (.int .i64 0),.nil,.p (.int .i64 0),.p (.int .i64 0),.p (.int .i64 0),.nil,.nil,.nil]]⟩),(2,⟨8,[.agg [.p (.int .i64 a.ring.kind),.p (.sl (ens a.ring.parts)),.p (.int .i64 a.sy),.p (.int .i64 a.sy),.p (.int .i64 a.st),.p (.sl (ens a.aM)),.p (.sl (ens a.fin)),.own 3 0 0 k]]⟩),(3,⟨12,aK ((a.aD.map uu).take k)⟩)])
  (I:=λk=>k<=a.aD.length) (m:=λk=>a.aD.length - k) 0
  ((aA.b5 (s0:=4) (g0:=0) (i:=7) (s:=77) (sz:=12) rfl).trans (aA.to [2,4,25,26,27] [((2,0),1),((4,0),2),((77,0),3)] (by simp))) (by omega) ?_
 rintro k r R f u o;have n:=aZ k;simp[g.u6,aB];refine⟨λd=>?_,λd=>o _ _ ?_⟩
 .refine bK d ?_;have b:aK ((a.aD.map uu).take (k+1))=aK ((a.aD.map uu).take k)++[.p (enc (uu a.aD[k]))]:=by rw[List.take_succ_eq_append_getElem (by simpa using d),sR];simp
  simp[n];exact⟨by omega,f (k+1) _ (aA.to [2,4,25,26,27] [((1,0),1),((2,0),2),((45,0),3)] (by simp[aB,b,uu])) (by omega) (by omega)⟩
 .have:k=a.aD.length:=by omega
  subst this;have b:(a.aD.map uu).take a.aD.length=a.aD.map uu:=eZ (by simp);simp;refine bA j (by simp[b,aU.oP]) ?_;simp
def VQ(t:aU)(h:t.sm 1048576)(z:t.aD.length<=100000)(u:t.aM.length<=1000000)(r:t.fin.length<=1000000)(b:t.ok->zS 30 [enc t.oP] (enc t.oP.nf)) :
  zS 54 [enc t] (.bM [enc (if t.vb then t.oP.nf else nJ),.int .i64 (if t.vb then 0 else 4)]):=by
 refine Sp.vz c.jk λ_=>?_;simp[g.jk];refine aW (Yb t h u r) ?_;cases n:t.vb
 .simp[nJ]
 have x:=aU.iV.1 n;have l:=b x;simp;clear b;generalize t.oP.nf=B at *
 refine b6 (S:=λk:Nat=>aB [(1,.ptr 1 0 0 0),(2,.ptr 2 0 0 0),(4,.ptr 3 0 0 0),(5,.p (.int .i64 k))]
   [(1,⟨7,[.p (enc t)]⟩),(2,⟨8,[.agg [.p (.int .i64 0),.nil,.p (.int .i64 0),.p (.int .i64 0),.p (.int .i64 0),.nil,.nil,.nil]]⟩),(3,⟨8,[.agg [.p (.int .i64 t.ring.kind),.p (.sl (ens t.ring.parts)),.p (.int .i64 t.sy),.p (.int .i64 t.sy),.p (.int .i64 t.st),.p (.sl (ens t.aM)),.p (.sl (ens t.fin)),.own 4 0 0 k]]⟩),(4,⟨12,aK ((t.aD.map uu).take k)⟩)])
  (I:=λk=>k<=t.aD.length) (m:=λk=>t.aD.length - k) 0
  ((aA.b5 (s0:=4) (g0:=0) (i:=7) (s:=77) (sz:=12) rfl).trans (aA.to [1,2,4,5] [((1,0),1),((2,0),2),((4,0),3),((77,0),4)] (by simp))) (by omega) ?_
 rintro k y R f A o;have j:=aZ k;by_cases d:k<t.aD.length
 .simp[g.tm,aB,d];refine bK d ?_;have a:aK ((t.aD.map uu).take (k+1))=aK ((t.aD.map uu).take k)++[.p (enc (uu t.aD[k]))]:=by rw[List.take_succ_eq_append_getElem (by simpa using d),sR];simp
  try rw[j]
  exact⟨⟨by omega,by omega⟩,f (k+1) _ (aA.to [1,2,4,5] [((1,0),1),((2,0),2),((3,0),3),((50,0),4)] (by simp[aB,a,uu])) (by omega) (by omega)⟩
 .have:k=t.aD.length:=by omega
  subst this;have a:(t.aD.map uu).take t.aD.length=t.aD.map uu:=eZ (by simp);simp[g.tm,aB];refine o _ _ ?_;simp;refine bA l (by simp[a,aU.oP]) ?_;simp
end Go.Ab
namespace Go.Ab
open Enc (enc)
attribute [local simp] iJ bP.aY
def Q8:zS 17 [enc jS,enc jS] (.bool true):=by
 have h:=OT jS jS ⟨λw a=>(by cases a),λw a=>(by cases a),λx b=>(by cases b)⟩ (by simp[jS]) (by simp[jS]) (by simp[jS])
 rwa[decide_eq_true rfl]at h
def S9(t:GTrans)(w:List Int)(I C:GTrans)(A:aU)(e:Int)(l:zS 47 [enc t] (.bool true))(m:zS 48 [.sl (ens w),.int .i64 t.i] (.bool true))(n:w.length<=63)
  (j:zS 49 [enc (jK t.ring t.i w)] (.bM [enc I,.int .i64 0])) (h:zS 9 [enc I,enc t] (.bM [enc C,.int .i64 e])) (d:e≠0->A=jS) (f:e=0->zS 51 [enc C] (.bM [enc A,.int .i64 0])) :
  zS 15 [enc t,.sl (ens w)] (.bM [enc A,.int .i64 e]):=by
 refine Sp.vz c.cd λ_=>?_;simp[g.cd];refine aW l ?_;simp;refine aW m ?_;have b:¬ (64:Int)<=w.length:=by omega
 simp[b];refine aW (ycl t.ring t.i w (by omega)) ?_;simp;refine aW j ?_;simp;refine aW h ?_;simp;refine⟨λa=>?_,λa=>?_⟩
 .have k:=f a;refine aW k ?_;simp[a]
 .have:=d a;subst this;simp[jS]
def Qm(t:GTrans)(w:List Int)(I C:GTrans)(A:aU)(e:Int)(l:zS 52 [enc t] (.bool true))(m:zS 53 [.sl (ens w),.int .i64 t.i] (.bool true))(n:w.length<=63)
  (j:zS 54 [enc (jK t.ring t.i w)] (.bM [enc I,.int .i64 0])) (h:zS 10 [enc I,enc t] (.bM [enc C,.int .i64 e])) (d:e≠0->A=jS) (f:e=0->zS 56 [enc C] (.bM [enc A,.int .i64 0])) :
  zS 16 [enc t,.sl (ens w)] (.bM [enc A,.int .i64 e]):=by
 refine Sp.vz c.cg λ_=>?_;simp[g.cg];refine aW l ?_;simp;refine aW m ?_;have b:¬ (63:Int)<w.length:=by omega
 simp[b];refine aW (z24 t.ring t.i w (by omega)) ?_;simp;refine aW j ?_;simp;refine aW h ?_;simp;refine⟨λa=>?_,λa=>?_⟩
 .have k:=f a;refine aW k ?_;simp[a]
 .have:=d a;subst this;simp[jS]
def ycy(t:GTrans)(w:List Int)(a b:Bool)(f:zS 47 [enc t] (.bool a))(j:zS 48 [.sl (ens w),.int .i64 t.i] (.bool b))(h:¬ (a=true/\b=true/\w.length<=63)) :
  zS 15 [enc t,.sl (ens w)] (.bM [enc jS,.int .i64 (if a=false then 4 else if b=false then 9 else 2)]):=by
 refine Sp.vz c.cd λ_=>?_;simp[g.cd];refine aW f ?_;cases a
 .simp[jS]
 simp;refine aW j ?_;cases b
 .simp[jS]
 have d:(64:Int)<=w.length:=by simp at h;omega
 simp[d,jS]
def Ye(t:GTrans)(w:List Int)(a b:Bool)(f:zS 52 [enc t] (.bool a))(j:zS 53 [.sl (ens w),.int .i64 t.i] (.bool b))(h:¬ (a=true/\b=true/\w.length<=63)) :
  zS 16 [enc t,.sl (ens w)] (.bM [enc jS,.int .i64 (if a=false then 4 else if b=false then 9 else 2)]):=by
 refine Sp.vz c.cg λ_=>?_;simp[g.cg];refine aW f ?_;cases a
 .simp[jS]
 simp;refine aW j ?_;cases b
 .simp[jS]
 have d:(63:Int)<w.length:=by simp at h;omega
 simp[d,jS]
def Qn(t:GTrans)(lt:t.lc)(w:List Int)(hw:w.length<=4\/(64<=w.length/\w.length<=1000)) :
  ∃ (A:aU) (e:Int),zS 15 [enc t,.sl (ens w)] (.bM [enc A,.int .i64 e])/\zS 16 [enc t,.sl (ens w)] (.bM [enc A,.int .i64 e])/\zS 17 [enc A,enc A] (.bool true):=by
 have l3:=lt.i5;have l4:=lt.f5;have B:=Gh t (lt.sm.mono (by omega)) (by omega) (by omega);have j:=MM t (lt.sm.mono (by omega)) (by omega) (by omega);have C:=VV w t.i (by omega);have l:=Ya w t.i (by omega);by_cases h:decide t.ok=true/\decide ((1<=t.i/\t.i<=32)/\w.length<=256/\∀ x∈w,1<=x/\x<=t.i)=true/\w.length<=63;rotate_left
 .exact⟨jS,_,ycy t w _ _ B C h,Ye t w _ _ j l h,Q8⟩
 obtain⟨b,a,z⟩:=h;rw[b]at B j;rw[a]at C l;have b:t.ok:=of_decide_eq_true b;have a:=of_decide_eq_true a;have E:w.length<=4:=by omega
 have N:1<=t.i/\t.i<=32:=a.1;have J:=a.2.2;have o:=Uy b.ring N (show w.length<=63 by omega) J;have p:=Zo b.ring t.i w;have F:=Zn b.ring N E J;have la:(jK t.ring t.i w).aD.length<=19:=by simp[jK,kT];omega
 have W:(jK t.ring t.i w).aM.length<=1000000:=by simp[jK,oR];omega
 have V:(jK t.ring t.i w).fin.length<=1000000:=by simp[jK,oS];omega
 have m:=Ua o;have D:(jK t.ring t.i w).oP.lc:=by
  have S:=H7 b.ring w.length;have Q:=H6 b.ring w.length;have O:∀ x∈(jK t.ring t.i w).oP.aD,x.w=t.ring.one:=λx r=>by obtain⟨y,U,rfl⟩:=cA.1 r;obtain⟨i,_,rfl⟩:=HA y U;rfl
  refine⟨⟨λv a=>(S v a).sm.mono (by omega),λv a=>(Q v a).sm.mono (by omega),λx r=>by rw[O x r];exact(BT b.ring).sm.mono (by omega)⟩,λv a=>?_,?_,?_,?_,by have:=BP b.ring;show t.ring.parts.length<=_;omega⟩
  .simp only[GTrans.jP,dN,cA]at a;obtain a|a|⟨x,r,rfl⟩:=a
   .exact(S v a).sm.li
   .exact(Q v a).sm.li
   .rw[O x r];exact(BT b.ring).sm.li
  .show(oR t.ring w.length).length<=5;simp[oR];omega
  .show(oS t.ring w.length).length<=5;simp[oS];omega
  .show((jK t.ring t.i w).aD.map uu).length<=12;rw[ra];simp[jK,kT];omega
 have ci:=DL.of D;have G:=ci.n;rw[aX m,aX m]at G;have s:=Vt (jK t.ring t.i w) (p.mono (by omega)) (by omega) G;have d:=VQ (jK t.ring t.i w) (p.mono (by omega)) (by omega) W V λ_=>ci.f m;rw[aU.iV.2 o]at s d;simp only[cH]at s d;obtain⟨M,hM,I⟩:=yck (t:=(jK t.ring t.i w).oP.nf) (u:=t) F.1 lt F.2 b rfl rfl;obtain⟨R,e,K,L,p3⟩:=z23 (DL.of F.1) (DL.of lt) I;obtain⟨_,_,rfl,k,_⟩|⟨_,rfl,rfl⟩:=p3
 .obtain⟨A,X,Y,Z⟩:=U' k I.mp (by omega);exact⟨A,0,S9 t w _ R A 0 B C z s K (λh=>absurd rfl h) (λ_=>X),Qm t w _ R A 0 j l z d L (λh=>absurd rfl h) (λ_=>Y),Z⟩
 .exact⟨jS,2,S9 t w _ nJ jS 2 B C z s K (λ_=>rfl) (λh=>by omega),Qm t w _ nJ jS 2 j l z d L (λ_=>rfl) (λh=>by omega),Q8⟩
def projectApplies_sp(t:GTrans)(w:List Int):Sp P 5 [enc t,.sl (ens w)] (.pure (.bool true)):=by
 refine Sp.vz c.qk λl=>?_;simp[g.qk];refine aW (VO t) ?_;by_cases lt:t.lt;rotate_left
 .rw[decide_eq_false lt];simp;refine aW F1 ?_;simp
 rw[decide_eq_true lt];obtain h|⟨h,k⟩|⟨h,k⟩|h:=(show w.length<=3\/(4<=w.length/\w.length<=63)\/(64<=w.length/\w.length<=261)\/262<=w.length by omega)
 .have a:¬ (3:Int)<w.length:=by omega
  have b:¬ (261:Int)<w.length:=by omega
  simp[a,b];obtain⟨A,e,f,i,j⟩:=Qn t lt.lc w (by omega);refine aW f ?_;simp;refine aW i ?_;simp;refine aW F1 ?_;simp;refine aW j ?_;simp
 .have a:(3:Int)<w.length:=by omega
  have b:(w.length:Int)<64:=by omega
  simp[a,b];refine aW F1 ?_;simp
 .have a:(3:Int)<w.length:=by omega
  have b:¬ (w.length:Int)<64:=by omega
  have d:¬ (261:Int)<w.length:=by omega
  simp[a,b,d];obtain⟨A,e,f,i,j⟩:=Qn t lt.lc w (by omega);refine aW f ?_;simp;refine aW i ?_;simp;refine aW F1 ?_;simp;refine aW j ?_;simp
 .have a:(3:Int)<w.length:=by omega
  have b:¬ (w.length:Int)<64:=by omega
  have d:(261:Int)<w.length:=by omega
  simp[a,b,d];refine aW F1 ?_;simp
end Go.Ab
set_option linter.all false
namespace Go.Ab
open Enc (enc)
section
variable {H:Type} {en:TypeId × Value->H} {w:World}
def jW(n:Nat):p' en P w n T.int (gL Int):=ZM ty.int
def rdBool(n:Nat):p' en P w n T.bool (gL Bool):=ye5 ty.bool
def rdInts(n:Nat):p' en P w n T.ints (gL (List Int)):=Ed (λ_=>rfl) (λ_=>rfl) ty.ints ty.cell λk _=>jW k
def SK(n:Nat):p' en P w n T.rF (gL (List UInt32)):=Ed (λ_=>rfl) (λ_=>rfl) ty.rF ty.Ov λk _=>ZN ty.u32
def TZ(n:Nat):p' en P w n T.rat (gL aT):=CY (Ds:=[gL Bool,gL (List UInt32),gL (List UInt32)]) ty.rat rfl (λm _=>⟨rdBool m,SK m,SK m,trivial⟩) λo h=>by obtain⟨_,j,rfl,⟨a,rfl⟩,d⟩:=h.cons;obtain⟨_,k,rfl,⟨b,rfl⟩,f⟩:=d.cons;obtain⟨_,l,rfl,⟨c,rfl⟩,i⟩:=f.cons;obtain rfl:=i.nil;exact⟨⟨a,b,c⟩,by simp[PV.cells]⟩
def ZI(n:Nat):p' en P w n T.mono (gL aF):=CY (Ds:=[(λl=>∃ a b c:Int,l=[.int .i64 a,.int .i64 b,.int .i64 c]),gL aT]) ty.mono rfl (λm _=>⟨XP ty.key ty.int ty.cell ty.cells,TZ m,trivial⟩) λk h=>by obtain⟨_,i,rfl,⟨a,b,c,rfl⟩,d⟩:=h.cons;obtain⟨_,j,rfl,⟨q,rfl⟩,f⟩:=d.cons;obtain rfl:=f.nil;exact⟨⟨⟨a,b,c⟩,q⟩,by simp[PV.cells]⟩
def XC(x:aF):(enc x).cells.all PV.one=true:=by simp[PV.cells]
def T'(x:GW):(enc x).cells.all PV.one=true:=by simp[PV.cells]
def XD(x:aE):(enc x).cells.all PV.one=true:=by simp[PV.cells]
def gtrans_one(x:GTrans):(enc x).cells.all PV.one=true:=by simp[PV.cells]
def ZJ(n:Nat):p' en P w n T.aR (gL (List aF)):=Ed XC (λ_=>rfl) ty.aR ty.Hp λk _=>ZI k
theorem OP(n:Nat):p' en P w n T.weight (gL GW):=by
 induction n using Nat.strongRecOn with
 | ind n s =>
  refine CY (Ds:=[gL aT,gL Int,gL Bool,gL UInt64,gL (List aF),gL (List GW)]) ty.weight rfl (λm D=>⟨TZ m,jW m,rdBool m,ZO ty.u64,ZJ m,Ed T' (λx=>by simp[PV.cells]) ty.weights ty.vR λk C=>s k (by omega),trivial⟩) λE h=>?_;obtain⟨_,t,rfl,⟨a,rfl⟩,i⟩:=h.cons;obtain⟨_,u,rfl,⟨b,rfl⟩,j⟩:=i.cons;obtain⟨_,y,rfl,⟨c,rfl⟩,l⟩:=j.cons;obtain⟨_,z,rfl,⟨d,rfl⟩,o⟩:=l.cons;obtain⟨_,A,rfl,⟨e,rfl⟩,p⟩:=o.cons;obtain⟨_,B,rfl,⟨f,rfl⟩,r⟩:=p.cons;obtain rfl:=r.nil;exact⟨.mk a b c d e f,by simp[PV.cells]⟩
def Qf(n:Nat):p' en P w n T.weights (gL (List GW)):=Ed T' (λx=>by simp[PV.cells]) ty.weights ty.vR λk _=>OP k
def ZK(n:Nat):p' en P w n T.ring (gL aC):=CY (Ds:=[gL Int,gL (List Int)]) ty.ring rfl (λm _=>⟨jW m,rdInts m,trivial⟩) λk h=>by obtain⟨_,i,rfl,⟨a,rfl⟩,d⟩:=h.cons;obtain⟨_,j,rfl,⟨b,rfl⟩,f⟩:=d.cons;obtain rfl:=f.nil;exact⟨⟨a,b⟩,by simp[PV.cells]⟩
def ZL(n:Nat):p' en P w n T.wO (gL aE):=CY (Ds:=[gL Int,gL Int,gL Int,gL Int,gL GW]) ty.wO rfl (λm _=>⟨jW m,jW m,jW m,jW m,OP m,trivial⟩) λu h=>by obtain⟨_,o,rfl,⟨a,rfl⟩,f⟩:=h.cons;obtain⟨_,p,rfl,⟨b,rfl⟩,i⟩:=f.cons;obtain⟨_,r,rfl,⟨c,rfl⟩,j⟩:=i.cons;obtain⟨_,s,rfl,⟨e,rfl⟩,k⟩:=j.cons;obtain⟨_,t,rfl,⟨d,rfl⟩,l⟩:=k.cons;obtain rfl:=l.nil;exact⟨⟨a,b,c,e,d⟩,by simp[PV.cells]⟩
def rdTrans(n:Nat):p' en P w n T.trans (gL GTrans):=CY (Ds:=[gL aC,gL Int,gL Int,gL Int,gL (List GW),gL (List GW),gL (List aE)]) ty.trans rfl (λm _=>⟨ZK m,jW m,jW m,jW m,Qf m,Qf m,Ed XD (λ_=>rfl) ty.vO ty.Hm λk _=>ZL k,trivial⟩) λC h=>by obtain⟨_,t,rfl,⟨a,rfl⟩,i⟩:=h.cons;obtain⟨_,u,rfl,⟨b,rfl⟩,j⟩:=i.cons;obtain⟨_,x,rfl,⟨c,rfl⟩,l⟩:=j.cons;obtain⟨_,y,rfl,⟨g,rfl⟩,o⟩:=l.cons;obtain⟨_,z,rfl,⟨d,rfl⟩,p⟩:=o.cons;obtain⟨_,A,rfl,⟨e,rfl⟩,r⟩:=p.cons;obtain⟨_,B,rfl,⟨f,rfl⟩,s⟩:=r.cons;obtain rfl:=s.nil;exact⟨⟨a,b,c,g,d,e,f⟩,by simp[PV.cells]⟩
def DA(x:pN):(enc x).cells.all PV.one=true:=by simp[PV.cells]
def J0(n:Nat):p' en P w n T.model (gL pN):=CY (Ds:=[gL Int,gL (List Int),gL (List Int),gL (List Int),gL Bool]) ty.model rfl (λm _=>⟨jW m,rdInts m,rdInts m,rdInts m,rdBool m,trivial⟩) λu h=>by obtain⟨_,o,rfl,⟨a,rfl⟩,f⟩:=h.cons;obtain⟨_,p,rfl,⟨b,rfl⟩,i⟩:=f.cons;obtain⟨_,r,rfl,⟨c,rfl⟩,j⟩:=i.cons;obtain⟨_,s,rfl,⟨d,rfl⟩,k⟩:=j.cons;obtain⟨_,t,rfl,⟨e,rfl⟩,l⟩:=k.cons;obtain rfl:=l.nil;exact⟨⟨a,b,c,d,e⟩,by simp[PV.cells]⟩
end
end Go.Ab
