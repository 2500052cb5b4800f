/- Lemmas for the law ComposeBuildsMadeModels, part 27. No conditions. -/
import Derived.Test.YthhdboljpgdcpaaGreatDoorAP26
set_option maxRecDepth 100000
set_option maxHeartbeats 4000000
set_option linter.all false
namespace Go.Ab
open Enc (enc)
attribute [local simp] fX bL.aR
def nD(k:Int):GW:=.mk dI 0 (decide (k=2)) 0 [] []
def aB.zero(r:aB):GW:=if r.ok then .mk dI 0 (decide (r.kind=2)) 0 [] (r.parts.map nD)else Ee
def ydc(r:aB)(h:r.parts=[]):zS 23 [enc r] (enc r.zero):=by
 refine Sp.vz c.ax λ_=>?_;simp[g.ax];refine bF (oQ r) rfl ?_;obtain a|a:=ju r.ok;rotate_left
 .simp[a,aB.zero,Ee]
 simp[a];refine jR λR d f b=>?_;simp[g.q7,h];refine b _ _ ?_;simp[a,aB.zero,h]
def BI(r:aB):zS 23 [enc r] (enc r.zero):=by
 refine Sp.vz c.ax λ_=>?_;simp[g.ax];refine bF (oQ r) rfl ?_;obtain a|a:=ju r.ok;rotate_left
 .simp[a,aB.zero,Ee]
 simp[a]
 refine cQ (S:=λk:Nat=>aD [(1,.ptr 1 0 0 0),(2,.ptr 2 0 0 0),(3,.ptr 3 0 0 0),(4,.p (.int .i64 k))]
   [(1,⟨2,[.p (enc r)]⟩),(2,⟨8,[.agg [.p (.bool false),.nil,.nil,.p (.int .i64 0),.p (.bool false),.p (.int .u64 0),.nil,.nil]]⟩),
    (3,⟨8,[.agg [.p (.bool false),.nil,.nil,.p (.int .i64 0),.p (.bool (decide (r.kind=2))),.p (.int .u64 0),.nil,.own 4 0 0 k]]⟩),(4,⟨8,aT ((r.parts.map nD).take k)⟩)])
  (I:=λk=>k<=r.parts.length) (m:=λk=>r.parts.length - k) 0
  ((aA.cW (s0:=3) (g0:=0) (i:=7) (s:=77) (sz:=8) rfl).trans (aA.to [1,2,3,4] [((1,0),1),((2,0),2),((3,0),3),((77,0),4)] (by simp))) (by omega) ?_
 rintro k x R o y u;have j:r.parts.length<=3:=by
  by_cases b:r.kind=6
  .exact(aB.bQ a b).2.1
  .simp[(aB.cC a b).2.2]
 have l:=bH k;simp[g.q7,aD];refine⟨λd=>?_,λd=>u _ _ ?_⟩
 .have b:r.kind=6:=by
   by_cases b:r.kind=6
   .exact b
   .have:=(aB.cC a b).2.2;rw[this]at d;simp at d
  have h:=(aB.bQ a b).2.2 _ (bV d);refine bF (EY r k d) rfl ?_;simp;refine bF (ydc ⟨r.parts[k],[]⟩ rfl) rfl ?_;have w:(⟨r.parts[k],[]⟩:aB).zero=nD r.parts[k]:=by
   have n:r.parts[k]≠6:=by omega
   simp[aB.zero,aB.ok,n,h,nD]
  have f:k<(r.parts.map nD).length:=by simpa using d
  rw[w];simp[l];refine⟨by omega,o (k+1) _ (aA.to [1,2,3,4] [((1,0),1),((2,0),2),((3,0),3),((28,0),4)] (by simp[ed f,zX])) (by omega) (by omega)⟩
 .have:k=r.parts.length:=by omega
  subst this;have t:(r.parts.map nD).take r.parts.length=r.parts.map nD:=by rw[fK (by simp)]
  simp[a,aB.zero];simp only[t]
def Ht(r:aB)(w:GW)(a:w.sm 1048576):zS 31 [enc r,enc w] (.bool (decide (w=r.zero))):=by refine Sp.vz c.cq λ_=>?_;simp[g.cq];refine bA (BI r) ?_;simp;refine bA (He w a r.zero) ?_;simp
noncomputable def GW.tk(r:aB)(w:GW):GW:=if w.aQ r then w else r.zero
def KO:dI.valid=true:=by have:=sP 0;rw[xh]at this;exact this
def Cl{k:Int}{w:GW}(h:w.si k):w.q.valid=true:=by
 by_cases a:k=1
 .exact h.2.2.2.2.2.1 a
 .by_cases b:k=3
  .exact(h.2.2.2.2.2.2.2.1 b).1
  .rw[h.2.1 a b];exact KO
def jJ{k:Int}{w:GW}(h:w.si k):bM w.aP:=by
 by_cases a:k=5
 .exact h.2.2.2.2.2.2.2.2 a
 .rw[h.2.2.2.2.1 a];exact AO
def SV{r:aB}{w:GW}(h:w.aQ r):w.q.valid=true:=by
 by_cases a:r.kind=6
 .have:=(h.2.2 a).2.1;rw[this];exact KO
 .exact Cl (h.2.1 a)
def DF{r:aB}{w:GW}(h:w.aQ r):bM w.aP:=by
 by_cases a:r.kind=6
 .have:=(h.2.2 a).2.1;rw[this];exact AO
 .exact jJ (h.2.1 a)
def tO{k:Int}(h:1<=k/\k<=5):(⟨k,[]⟩:aB).ok=true:=by
 have a:k≠6:=by omega
 simp[aB.ok,a,h]
def EN{r:aB}{w:GW}(h:w.aQ r)(b:r.kind=6){i:Nat}(d:i<r.parts.length)(a:i<w.parts.length):w.parts[i].aQ ⟨r.parts[i],[]⟩:=by have j:=(aB.bQ h.1 b).2.2 _ (bV d);refine⟨tO j,λ_=>(h.2.2 b).2.2 i d a,λf=>?_⟩;simp at f;omega
def ydj(r:aB)(w:GW)(b:w.sm 1048576)(h:w.parts=[]):zS 82 [enc r,enc w] (enc (w.tk r)):=by
 refine Sp.vz c.ba λ_=>?_;simp[g.ba];refine bA (Hc r w b) ?_;by_cases a:w.aQ r;rotate_left
 .simp[a,GW.tk];refine bA (BI r) ?_;simp
 simp[a,GW.tk];refine bF (yA w.q (b.q.mono (by omega))) rfl ?_;rw[sK (SV a)];simp;refine bF (C' w.aP b.aP (by have:=b.len;omega)) rfl ?_;rw[yl (DF a)];simp;refine jR λR f i d=>?_;simp[g.rh,h];refine d _ _ ?_;simp[h]
def mR(r:aB)(w:GW)(j:w.sm 1048576):zS 82 [enc r,enc w] (enc (w.tk r)):=by
 refine Sp.vz c.ba λ_=>?_;simp[g.ba];refine bA (Hc r w j) ?_;by_cases a:w.aQ r;rotate_left
 .simp[a,GW.tk];refine bA (BI r) ?_;simp
 simp[a,GW.tk];refine bF (yA w.q (j.q.mono (by omega))) rfl ?_;rw[sK (SV a)];simp;refine bF (C' w.aP j.aP (by have:=j.len;omega)) rfl ?_;rw[yl (DF a)];simp
 refine cQ (S:=λk:Nat=>aD [(2,.ptr 1 0 0 0),(3,.ptr 2 0 0 0),(4,.ptr 3 0 0 0),(5,.ptr 4 0 0 0),(6,.p (.int .i64 k))]
   [(1,⟨2,[.p (enc r)]⟩),(2,⟨8,[.p (enc w)]⟩),(3,⟨8,[.agg [.p (.bool false),.nil,.nil,.p (.int .i64 0),.p (.bool false),.p (.int .u64 0),.nil,.nil]]⟩),
    (4,⟨8,[.agg [.p (.bool w.q.neg),.p (.sl (aH w.q.num)),.p (.sl (aH w.q.den)),.p (.int .i64 w.cost),.p (.bool w.inf),.p (.int .u64 w.set.toNat),.p (.sl (aH w.aP)),.own 5 0 0 k]]⟩),(5,⟨8,aT (w.parts.take k)⟩)])
  (I:=λk=>k<=w.parts.length) (m:=λk=>w.parts.length - k) 0
  ((aA.cW (s0:=5) (g0:=0) (i:=7) (s:=77) (sz:=8) rfl).trans (aA.to [2,3,4,5,6] [((2,0),1),((3,0),2),((4,0),3),((5,0),4),((77,0),5)] (by simp))) (by omega) ?_
 rintro k z R u B y;have o:=j.wE;have t:=bH k;simp[g.rh,aD];refine⟨λb=>?_,λb=>y _ _ ?_⟩
 .have h:r.kind=6:=by
   by_cases h:r.kind=6
   .exact h
   .have:=(a.2.1 h).1;rw[this]at b;simp at b
  have A:=(a.2.2 h).1;have d:k<r.parts.length:=by omega
  refine bF (EY r k d) rfl ?_;simp;refine bK b ?_;have f:=EN a h d b;have l:w.parts[k].parts=[]:=((a.2.2 h).2.2 k d b).1;refine bA (ydj ⟨r.parts[k],[]⟩ w.parts[k] (j.parts _ (bV b)) l) ?_;have x:w.parts[k].tk ⟨r.parts[k],[]⟩=w.parts[k]:=aW f;rw[x];have n:aT (w.parts.take (k+1))=aT (w.parts.take k)++[.p (enc w.parts[k])]:=by rw[ed b,zX];rfl
  simp[t];refine⟨by omega,u (k+1) _ (aA.to [2,3,4,5,6] [((1,0),1),((2,0),2),((3,0),3),((4,0),4),((45,0),5)] (by simp[n])) (by omega) (by omega)⟩
 .have:k=w.parts.length:=by omega
  subst this;simp
def kF(a b c d e:FuncId)(k:Int):FuncId:=if k=1 then a else if k=2 then b else if k=3 then c else if k=4 then d else e
def TT:=kF 193 207 218 224 234
def TS:=kF 195 208 195 225 236
def kF2:=kF 196 209 196 226 237
def TR:=kF 198 210 222 227 239
def TU(k:Int):List PV:=if k=3 then[.ref tB]else[]
def TQ:=kF 200 212 200 228 241
def zL(k:Int)(i:1<=k/\k<=5):∃ d f6 f h a b,xA k=.agg [.fn (TT k) [],.fn (TS k) [],.fn (kF2 k) [],.fn (TR k) (TU k),.fn (TQ k) [],.fn d a,.fn f6 [],.fn f [],.fn h b]:=by
 have:k=1\/k=2\/k=3\/k=4\/k=5:=by omega
 obtain rfl|rfl|rfl|rfl|rfl:=this<;>exact⟨_,_,_,_,_,_,rfl⟩
def Rc(k:Int)(b:1<=k/\k<=5)(w:GW)(a:w.sm 1048576):Sp P (TT k) [enc w] (.pure (.bool (decide (w.si k)))):=by
 have:k=1\/k=2\/k=3\/k=4\/k=5:=by omega
 obtain rfl|rfl|rfl|rfl|rfl:=this
 .exact NM w a
 .exact ybs w a
 .exact yba w a
 .exact Vu w a
 .exact VE w a
def NN:zS 195 [] (enc (.mk dI 0 false 0 [] []:GW)):=by refine Sp.vz c.bn λ_=>?_;simp[g.bn]
def Vv:zS 225 [] (enc (.mk dI 0 false 0 [] []:GW)):=by refine Sp.vz c.dr λ_=>?_;simp[g.dr]
def VF:zS 236 [] (enc (.mk dI 0 false 0 [] []:GW)):=by refine Sp.vz c.gj λ_=>?_;simp[g.gj]
def ybr:zS 208 [] (enc (.mk dI 0 true 0 [] []:GW)):=by refine Sp.vz c.dg λ_=>?_;simp[g.dg]
def Oc(k:Int)(a:1<=k/\k<=5):Sp P (TS k) [] (.pure (enc (nD k))):=by
 have:k=1\/k=2\/k=3\/k=4\/k=5:=by omega
 obtain rfl|rfl|rfl|rfl|rfl:=this
 .exact NN
 .exact ybr
 .exact NN
 .exact Vv
 .exact VF
def Jx(r:aB)(hp:∀ k∈r.parts,1<=k/\k<=5)(G:r.parts.length<=3)(f:FuncId)(b:List PV)(a:List GW)(H:a.length=r.parts.length)
  (u:∀ i,(h:i<r.parts.length)->(E:i<a.length)->Sp P f (xA r.parts[i]::.int .i64 i::b) (.pure (enc a[i]))) :
  zS 124 [enc r,.fn f b] (enc (.mk dI 0 false 0 [] a:GW)):=by
 refine Sp.vz c.fh λ_=>?_;simp[g.fh]
 refine cQ (S:=λk:Nat=>aD [(1,.p (.fn f b)),(4,.ptr 1 0 0 0),(5,.ptr 2 0 0 0),(9,.p (.sl (aH r.parts))),(10,.p (.int .i64 r.parts.length)),(11,.p (.int .i64 k))]
   [(1,⟨8,[.agg [.p (.bool false),.nil,.nil,.p (.int .i64 0),.p (.bool false),.p (.int .u64 0),.nil,.nil]]⟩),
    (2,⟨8,[.agg [.p (.bool false),.nil,.nil,.p (.int .i64 0),.p (.bool false),.p (.int .u64 0),.nil,.own 3 0 0 k]]⟩),(3,⟨8,aT (a.take k)⟩)])
  (I:=λk=>k<=r.parts.length) (m:=λk=>r.parts.length - k) 0
  ((aA.cW (s0:=5) (g0:=0) (i:=7) (s:=77) (sz:=8) rfl).trans (aA.to [1,4,5,9,10,11] [((4,0),1),((5,0),2),((77,0),3)] (by simp))) (by omega) ?_
 rintro k F R w J x;have t:=bH k;simp[g.tw,aD];refine⟨λj=>?_,λj=>x _ _ ?_⟩
 .have l:k<a.length:=by omega
  refine bK j ?_
  try simp
  refine bF (CU r.parts[k] (hp _ (bV j))) rfl ?_;obtain⟨A,B,C,D,y,z,o⟩:=zL r.parts[k] (hp _ (bV j));have d:=u k j l;rw[o]at d;simp[o];refine bF d (lH rfl (lH rfl (zN _ _))) ?_;have n:aT (a.take (k+1))=aT (a.take k)++[.p (enc a[k])]:=by rw[ed l,zX];rfl
  simp[t];exact⟨⟨by omega,by omega⟩,w (k+1) _ (aA.to [1,4,5,9,10,11] [((1,0),1),((2,0),2),((24,0),3)] (by simp[n])) (by omega) (by omega)⟩
 .have:k=a.length:=by omega
  subst this;simp
def Xf(k:Int)(a:1<=k/\k<=5)(i:Int):zS 126 [xA k,.int .i64 i] (enc (nD k)):=by obtain⟨h,j,l,m,d,f,b⟩:=zL k a;rw[b];refine Sp.vz c.ja λ_=>?_;simp[g.ja];refine bF (Oc k a) rfl ?_;simp
def BJ(r:aB):zS 75 [enc r] (enc r.zero):=by
 refine Sp.vz c.cd λ_=>?_;simp[g.cd];refine bF (BS r) rfl ?_;obtain a|a:=ju r.ok;rotate_left
 .simp[a,aB.zero,Ee]
 simp[a];refine⟨λd=>?_,λd=>?_⟩
 .have f:=aB.bQ a d;refine bF (Jx r f.2.2 f.2.1 126 [] (r.parts.map nD) (by simp) λi h s=>by simpa using Xf r.parts[i] (f.2.2 _ (List.getElem_mem h)) i) rfl ?_;simp[a,aB.zero,d]
 .have b:=aB.cC a d;obtain⟨m,n,o,p,k,l,j⟩:=zL r.kind ⟨b.1,b.2.1⟩;refine bF (CU r.kind ⟨b.1,b.2.1⟩) rfl ?_;simp[j];refine bF (Oc r.kind ⟨b.1,b.2.1⟩) rfl ?_;simp[a,aB.zero,b.2.2,nD]
def KH(r:aB)(w:GW)(x:w.sm 1048576):zS 100 [enc r,enc w] (.bool (decide (w.aQ r))):=by
 refine Sp.vz c.fc λ_=>?_;simp[g.fc];refine bF (BS r) rfl ?_;obtain a|a:=ju r.ok;rotate_left
 .simp[a,GW.aQ]
 simp[a];refine⟨λd=>?_,λd=>?_⟩;rotate_left
 .have b:=aB.cC a d;obtain⟨C,D,E,F,z,A,o⟩:=zL r.kind ⟨b.1,b.2.1⟩;refine bF (CU r.kind ⟨b.1,b.2.1⟩) rfl ?_;simp[o];refine bA (Rc r.kind ⟨b.1,b.2.1⟩ w x) ?_;simp[GW.aQ,a,d]
 have J:=aB.bQ a d;refine⟨λG=>?_,λG h=>?_⟩;rotate_left
 .have:=(h.2.2 d).1;omega
 have u:w.parts.length=r.parts.length:=by omega
 refine bA (BP w x (.mk dI 0 false 0 [] w.parts)) ?_;simp;refine⟨λs=>?_,λs h=>s (h.2.2 d).2.1⟩
 refine cQ (S:=λk:Nat=>aD [(3,.ptr 1 0 0 0),(35,.p (.sl (aH r.parts))),(36,.p (.int .i64 r.parts.length)),(37,.p (.int .i64 k))] [(1,⟨8,[.p (enc w)]⟩)]) (I:=λk=>k<=r.parts.length/\∀ i,(h:i<r.parts.length)->(l:i<w.parts.length)->i<k->w.parts[i].si r.parts[i]) (m:=λk=>r.parts.length - k) 0
  (aA.to [3,35,36,37] [((3,0),1)] (by simp)) ⟨by omega,λi h l M=>by omega⟩ ?_
 rintro k ⟨N,y⟩ R H K L;have B:=bH k;simp[g.tp,aD];refine⟨λb=>?_,λb=>L _ _ ?_⟩
 .have f:k<w.parts.length:=by omega
  have j:=J.2.2 _ (bV b);obtain⟨C,D,E,F,z,A,o⟩:=zL r.parts[k] j;refine bK b ?_
  try simp
  refine bF (CU r.parts[k] j) rfl ?_;simp[o];refine bK f ?_
  try simp
  refine bA (Rc r.parts[k] j w.parts[k] (x.parts _ (bV f))) ?_;by_cases n:w.parts[k].si r.parts[k]
  .simp[n,B];refine H (k+1) _ (aA.to [3,35,36,37] [((1,0),1)] (by simp)) ⟨by omega,λi h l O=>?_⟩ (by omega);by_cases t:i<k
   .exact y i h l t
   .have:i=k:=by omega
    subst this;exact n
  .simp[n];refine K _ ?_;have:¬ w.aQ r:=λh=>n ((h.2.2 d).2.2 k b f);simp[this]
 .have:w.aQ r:=⟨a,λh=>absurd d h,λ_=>⟨u,s,λi h l=>y i h l (by omega)⟩⟩;simp[this]
def A4(r:aB)(w:GW)(b:w.sm 1048576):zS 122 [enc r,enc w] (enc (w.tk r)):=by
 refine Sp.vz c.i7 λ_=>?_;simp[g.i7];refine bA (KH r w b) ?_;by_cases a:w.aQ r
 .simp[a,GW.tk]
 .simp[a,GW.tk];refine bA (BJ r) ?_;simp
def dZ(k:Int)(ps:List GW):GW:=.mk (if k=1\/k=3 then cH 1 else dI) 0 false (if k=4 then 18446744073709551615 else 0) (if k=5 then qt 1 else[]) ps
def aB.one(r:aB):GW:=if r.ok then dZ r.kind (r.parts.map λk=>dZ k [])else Ee
def YC:zS 22 [enc (⟨1,[]⟩:aB)] (enc (dZ 1 [])):=by have d:Rat.divInt 1 1=1:=rfl;have a:=yn 1 1 (by omega) (by omega) (by omega);rw[d]at a;have b:(⟨1,[]⟩:aB).ok=true:=tO (by omega);refine Sp.vz c.ae λ_=>?_;simp[g.ae];refine bF (oQ ⟨1,[]⟩) rfl ?_;simp[b];refine bF a rfl ?_;simp;refine jR λR h i f=>?_;simp[g.o6];refine f _ _ ?_;simp[dZ]
def YD:zS 22 [enc (⟨2,[]⟩:aB)] (enc (dZ 2 [])):=by have d:Rat.divInt 1 1=1:=rfl;have a:=yn 1 1 (by omega) (by omega) (by omega);rw[d]at a;have b:(⟨2,[]⟩:aB).ok=true:=tO (by omega);refine Sp.vz c.ae λ_=>?_;simp[g.ae];refine bF (oQ ⟨2,[]⟩) rfl ?_;simp[b];refine jR λR h i f=>?_;simp[g.o6];refine f _ _ ?_;simp[dZ]
def YE:zS 22 [enc (⟨3,[]⟩:aB)] (enc (dZ 3 [])):=by have d:Rat.divInt 1 1=1:=rfl;have a:=yn 1 1 (by omega) (by omega) (by omega);rw[d]at a;have b:(⟨3,[]⟩:aB).ok=true:=tO (by omega);refine Sp.vz c.ae λ_=>?_;simp[g.ae];refine bF (oQ ⟨3,[]⟩) rfl ?_;simp[b];refine bF a rfl ?_;simp;refine jR λR h i f=>?_;simp[g.o6];refine f _ _ ?_;simp[dZ]
def YF:zS 22 [enc (⟨4,[]⟩:aB)] (enc (dZ 4 [])):=by have d:Rat.divInt 1 1=1:=rfl;have a:=yn 1 1 (by omega) (by omega) (by omega);rw[d]at a;have b:(⟨4,[]⟩:aB).ok=true:=tO (by omega);refine Sp.vz c.ae λ_=>?_;simp[g.ae];refine bF (oQ ⟨4,[]⟩) rfl ?_;simp[b];refine jR λR h i f=>?_;simp[g.o6];refine f _ _ ?_;simp[dZ]
def YG:zS 22 [enc (⟨5,[]⟩:aB)] (enc (dZ 5 [])):=by have d:Rat.divInt 1 1=1:=rfl;have a:=yn 1 1 (by omega) (by omega) (by omega);rw[d]at a;have b:(⟨5,[]⟩:aB).ok=true:=tO (by omega);refine Sp.vz c.ae λ_=>?_;simp[g.ae];refine bF (oQ ⟨5,[]⟩) rfl ?_;simp[b];refine bF a rfl ?_;simp;refine bF (LA (cH 1) (EC.mono (by omega))) rfl ?_;simp;refine jR λR h i f=>?_;simp[g.o6];refine f _ _ ?_;simp[dZ,qt,iN]
def Td(k:Int)(a:1<=k/\k<=5):zS 22 [enc (⟨k,[]⟩:aB)] (enc (dZ k [])):=by
 have:k=1\/k=2\/k=3\/k=4\/k=5:=by omega
 obtain rfl|rfl|rfl|rfl|rfl:=this
 .exact YC
 .exact YD
 .exact YE
 .exact YF
 .exact YG
def RF(r:aB):zS 22 [enc r] (enc r.one):=by
 obtain a|a:=ju r.ok;rotate_left
 .refine Sp.vz c.ae λ_=>?_;simp[g.ae];refine bF (oQ r) rfl ?_;simp[a,aB.one,Ee]
 by_cases d:r.kind=6;rotate_left
 .have b:=aB.cC a d;have t:r=⟨r.kind,[]⟩:=by rw[<- b.2.2]
  have f:r.one=dZ r.kind []:=by simp[aB.one,a,b.2.2]
  rw[f,t];exact Td r.kind ⟨b.1,b.2.1⟩
 have w:=aB.bQ a d;refine Sp.vz c.ae λ_=>?_;simp[g.ae];refine bF (oQ r) rfl ?_;simp[a,d]
 refine cQ (S:=λk:Nat=>aD [(1,.ptr 1 0 0 0),(2,.ptr 2 0 0 0),(3,.ptr 3 0 0 0),(4,.p (.int .i64 k))]
   [(1,⟨2,[.p (enc r)]⟩),(2,⟨8,[.agg [.p (.bool false),.nil,.nil,.p (.int .i64 0),.p (.bool false),.p (.int .u64 0),.nil,.nil]]⟩),
    (3,⟨8,[.agg [.p (.bool false),.nil,.nil,.p (.int .i64 0),.p (.bool false),.p (.int .u64 0),.nil,.own 4 0 0 k]]⟩),(4,⟨8,aT ((r.parts.map λk=>dZ k []).take k)⟩)])
  (I:=λk=>k<=r.parts.length) (m:=λk=>r.parts.length - k) 0
  ((aA.cW (s0:=3) (g0:=0) (i:=7) (s:=77) (sz:=8) rfl).trans (aA.to [1,2,3,4] [((1,0),1),((2,0),2),((3,0),3),((77,0),4)] (by simp[d]))) (by omega) ?_
 rintro k f R u y x;have o:=bH k;simp[g.o6,aD];refine⟨λb=>?_,λb=>x _ _ ?_⟩
 .have j:=w.2.2 _ (List.getElem_mem b);refine bF (EY r k b) rfl ?_;simp;refine bF (Td r.parts[k] j) rfl ?_;have h:k<(r.parts.map λk=>dZ k []).length:=by simpa using b
  have l:aT ((r.parts.map λk=>dZ k []).take (k+1))=aT ((r.parts.map λk=>dZ k []).take k)++[.p (enc (dZ r.parts[k] []))]:=by rw[ed h,zX];simp<;>rfl
  simp[o];exact⟨⟨(wc f).symm,by omega⟩,u (k+1) _ (aA.to [1,2,3,4] [((1,0),1),((2,0),2),((3,0),3),((39,0),4)] (by simp[l])) (by omega) (by omega)⟩
 .have:k=r.parts.length:=by omega
  subst this;have n:(r.parts.map λk=>dZ k []).take r.parts.length=r.parts.map λk=>dZ k []:=by rw[fK (by simp)]
  simp[a,d,aB.one,dZ];simp only[dZ]at n;simp only[n]
def QM(p q:List GW)(A:p.length<=1073741824)(hp:∀ w∈p,w.sm 1048576):zS 38 [.sl (aH p),.sl (aH q)] (.bool (decide (p=q))):=by
 refine Sp.vz c.km λ_=>?_;simp[g.km];refine⟨λh=>?_,λh=>λt=>h (by rw[t])⟩;have b:p.length=q.length:=by omega
 refine cQ (S:=λk:Nat=>aD [(0,.p (.sl (aH p))),(1,.p (.sl (aH q))),(5,.p (.int .i64 k))] []) (I:=λk=>k<=p.length/\p.take k=q.take k) (m:=λk=>p.length - k) 0
  (aA.to [0,1,5] [] (by simp)) ⟨by omega,by simp⟩ ?_
 rintro k ⟨z,j⟩ R u x y;have n:=bH k;simp[g.s5,aD];refine⟨λf=>?_,λf=>y _ _ ?_⟩
 .have a:k<q.length:=by omega
  have i:p[k]≠q[k]->p≠q:=λh o=>by subst o;exact h rfl
  refine bK f ?_;refine bK a ?_;refine bA (He p[k] (hp _ (bV f)) q[k]) ?_;by_cases d:p[k]=q[k]
  .simp[d,n];exact u (k+1) _ (aA.to [0,1,5] [] (by simp)) ⟨by omega,by rw[ed f,ed a,j,d]⟩ (by omega)
  .have s:p≠q:=i d;simp[d];exact x _ (by simp[s])
 .have r:p=q:=by rw[<- List.take_length (l:=p),<- List.take_length (l:=q),<- b,show p.length=k by omega];exact j
  simp[r]
def NC(x y:UInt64):Ec .u64 x.toNat y.toNat=((x ||| y).toNat:Int):=by rw[Js x.toNat_lt y.toNat_lt,UInt64.toNat_or]
def ew(k:Int)(v w:GW):GW :=
 if k=1 then .mk (cH (v.q.v+w.q.v)) 0 false 0 [] []
 else if k=2 then if v.inf=true\/(w.inf=false/\w.cost<v.cost)then w else v
 else if k=3 then if v.q.v<w.q.v then w else v
 else if k=4 then .mk dI 0 false (v.set ||| w.set) [] []
 else .mk dI 0 false 0 (eF v.aP w.aP) []
def ZT(v w:GW)(b:v.sm 1048576)(d:w.sm 1048576)(i:v.aQ ⟨1,[]⟩)(j:w.aQ ⟨1,[]⟩):zS 130 [enc (⟨1,[]⟩:aB),enc v,enc w] (enc (ew 1 v w)):=by have a:(⟨1,[]⟩:aB).ok=true:=tO (by omega);have k:v.tk ⟨1,[]⟩=v:=aW i;have l:w.tk ⟨1,[]⟩=w:=aW j;have f:=mR ⟨1,[]⟩ v b;have h:=mR ⟨1,[]⟩ w d;rw[k]at f;rw[l]at h;refine Sp.vz c.ah λ_=>?_;simp[g.ah];refine bF (oQ ⟨1,[]⟩) rfl ?_;simp[a];refine bA f ?_;simp;refine bA h ?_;simp;refine bF (I9 v.q w.q b.q d.q) rfl ?_;simp[ew]
def ZU(v w:GW)(l:v.sm 1048576)(m:w.sm 1048576)(j:v.aQ ⟨2,[]⟩)(k:w.aQ ⟨2,[]⟩):zS 130 [enc (⟨2,[]⟩:aB),enc v,enc w] (enc (ew 2 v w)):=by
 have d:(⟨2,[]⟩:aB).ok=true:=tO (by omega);have n:v.tk ⟨2,[]⟩=v:=aW j;have o:w.tk ⟨2,[]⟩=w:=aW k;have h:=mR ⟨2,[]⟩ v l;have i:=mR ⟨2,[]⟩ w m;rw[n]at h;rw[o]at i;refine Sp.vz c.ah λ_=>?_;simp[g.ah];refine bF (oQ ⟨2,[]⟩) rfl ?_;simp[d];refine bA h ?_;simp;refine bA i ?_;simp;obtain a|a:=ju v.inf
 .simp[ew,a]
 obtain b|b:=ju w.inf
 .simp[ew,a,b]
 simp[ew,a,b];refine⟨λf=>by simp[f,b],λf=>by simp[show ¬ w.cost<v.cost by omega,a]⟩
def ZV(v w:GW)(d:v.sm 1048576)(f:w.sm 1048576)(j:v.aQ ⟨3,[]⟩)(k:w.aQ ⟨3,[]⟩):zS 130 [enc (⟨3,[]⟩:aB),enc v,enc w] (enc (ew 3 v w)):=by
 have a:(⟨3,[]⟩:aB).ok=true:=tO (by omega);have l:v.tk ⟨3,[]⟩=v:=aW j;have m:w.tk ⟨3,[]⟩=w:=aW k;have h:=mR ⟨3,[]⟩ v d;have i:=mR ⟨3,[]⟩ w f;rw[l]at h;rw[m]at i;refine Sp.vz c.ah λ_=>?_;simp[g.ah];refine bF (oQ ⟨3,[]⟩) rfl ?_;simp[a];refine bA h ?_;simp;refine bA i ?_;simp;refine bF (NT v.q w.q d.q f.q) rfl ?_;by_cases b:v.q.v<w.q.v
 .simp[ew,b]
 .simp[ew,b]
def ZW(v w:GW)(i:v.sm 1048576)(j:w.sm 1048576)(f:v.aQ ⟨4,[]⟩)(h:w.aQ ⟨4,[]⟩):zS 130 [enc (⟨4,[]⟩:aB),enc v,enc w] (enc (ew 4 v w)):=by have a:(⟨4,[]⟩:aB).ok=true:=tO (by omega);have k:v.tk ⟨4,[]⟩=v:=aW f;have l:w.tk ⟨4,[]⟩=w:=aW h;have b:=mR ⟨4,[]⟩ v i;have d:=mR ⟨4,[]⟩ w j;rw[k]at b;rw[l]at d;refine Sp.vz c.ah λ_=>?_;simp[g.ah];refine bF (oQ ⟨4,[]⟩) rfl ?_;simp[a];refine bA b ?_;simp;refine bA d ?_;simp;simp[ew,NC]
def ZX(v w:GW)(o:v.sm 1048576)(p:w.sm 1048576)(f:v.aQ ⟨5,[]⟩)(h:w.aQ ⟨5,[]⟩)(D B a:Nat)(m:jU D B v.aP)(n:jU D a w.aP)(b:D≠0)(j:D<4294967296^1048576)(i:B+a<4294967296^1048576):zS 130 [enc (⟨5,[]⟩:aB),enc v,enc w] (enc (ew 5 v w)):=by have r:=Q8 v.aP w.aP D B a (DF f) (DF h) m n b j i;clear j i;have d:(⟨5,[]⟩:aB).ok=true:=tO (by omega);have s:v.tk ⟨5,[]⟩=v:=aW f;have t:w.tk ⟨5,[]⟩=w:=aW h;have k:=mR ⟨5,[]⟩ v o;have l:=mR ⟨5,[]⟩ w p;rw[s]at k;rw[t]at l;refine Sp.vz c.ah λ_=>?_;simp[g.ah];refine bF (oQ ⟨5,[]⟩) rfl ?_;simp[d];refine bA k ?_;simp;refine bA l ?_;simp;refine bF r rfl ?_;simp[ew]
def Vd(v w:GW)(a:v.sm 1048576)(b:w.sm 1048576):zS 198 [enc v,enc w] (enc (ew 1 v w)):=by refine Sp.vz c.f9 λ_=>?_;simp[g.f9];refine bF (EM v.q w.q a.q b.q) rfl ?_;simp[ew]
def Vw(v w:GW):zS 227 [enc v,enc w] (enc (ew 4 v w)):=by refine Sp.vz c.dt λ_=>?_;simp[g.dt,ew,NC]
def a7(v w:GW):zS 211 [enc v,enc w] (.bool (!v.inf&&(w.inf||decide (v.cost<w.cost)))):=by refine Sp.vz c.di λ_=>?_;simp[g.di];obtain a|a:=ju v.inf<;>obtain b|b:=ju w.inf<;>simp[a,b]
def ybq(v w:GW)(j:v.si 2)(k:w.si 2):zS 210 [enc v,enc w] (enc (ew 2 v w)):=by
 refine Sp.vz c.dh λ_=>?_;simp[g.dh];refine bA (a7 w v) ?_;obtain f|f:=ju v.inf
 .obtain d|d:=ju w.inf
  .have h:v=w:=by have a:=oV.1 j;have b:=oV.1 k;exact GW.ext (by rw[a.2.1,b.2.1]) (by rw[a.2.2.2.2.2.2 f,b.2.2.2.2.2.2 d]) (by rw[f,d]) (by rw[a.2.2.1,b.2.2.1]) (by rw[a.2.2.2.1,b.2.2.2.1]) (by rw[a.1,b.1])
   subst h;simp[f,ew]
  .simp[f,d,ew]
 .obtain d|d:=ju w.inf
  .simp[f,d,ew]
  .by_cases i:w.cost<v.cost
   .simp[f,d,i,ew]
   .simp[f,d,i,ew]
def ya9(v w:GW)(a:v.sm 1048576)(b:w.sm 1048576):zS 221 [enc v,enc w] (.bool (decide (w.q.v<v.q.v))):=by refine Sp.vz c.gg λ_=>?_;simp[g.gg];refine bF (QC v.q w.q a.q b.q) rfl ?_;simp[R0]
def ya8(v w:GW)(f:v.sm 1048576)(i:w.sm 1048576)(k:v.si 3)(l:w.si 3):zS 222 [enc v,enc w,.ref tB] (enc (ew 3 v w)):=by
 refine Sp.gU c.gh (by simp) (aA.eU (t:=2) (v:=tB) (n:=9) (by simp) rfl) ?_;simp[g.gh,tB];refine bA (ya9 w v i f) ?_;have d:∀ x:GW,x.si 3->x=.mk (cH x.q.v) 0 false 0 [] []:=λx j=>by have a:=vG.1 j;exact GW.ext (sK a.2.2.2.2.2.1).symm a.2.2.1 a.2.1 a.2.2.2.1 a.2.2.2.2.1 a.1
 have b:dI.v=0:=by rw[show dI=cH 0 from xh.symm,iN]
 by_cases h:v.q.v<w.q.v
 .have e:ew 3 v w=.mk (cH w.q.v) 0 false 0 [] []:=by simp only[ew,h,cB];exact d w l
  rw[e];simp[h];have:=EM w.q dI i.q (CL _);rw[b,pO]at this;refine bF this rfl ?_;simp
 .have e:ew 3 v w=.mk (cH v.q.v) 0 false 0 [] []:=by simp only[ew,h,fQ];exact d v k
  rw[e];simp[h];have:=EM v.q dI f.q (CL _);rw[b,pO]at this;refine bF this rfl ?_;simp
end Go.Ab
namespace Go.Ab
open Go.Proofs
def T.bool:TypeId:=4
def T.int:TypeId:=3
def T.ints:TypeId:=22
def T.rB:TypeId:=52
def T.u32:TypeId:=179
def T.u64:TypeId:=55
def T.key:TypeId:=100
def T.rat:TypeId:=54
def T.mono:TypeId:=102
def T.aP:TypeId:=56
def T.weight:TypeId:=58
def T.weights:TypeId:=25
def T.ring:TypeId:=24
def T.I7:TypeId:=93
def T.aE:TypeId:=40
def T.wk:TypeId:=60
def T.vE:TypeId:=26
def T.auto:TypeId:=42
def T.trans:TypeId:=28
def T.model:TypeId:=36
def ty.map:P.underlying 266=some (.map 100 54):=by kernel_rfl
def ty.key:P.underlying 100=some (.array 3 3):=by kernel_rfl
def ty.int:P.underlying 3=some (.int .i64):=by kernel_rfl
def ty.bool:P.underlying 4=some .bool:=by kernel_rfl
def ty.u32:P.underlying 179=some (.int .u32):=by kernel_rfl
def ty.u64:P.underlying 55=some (.int .u64):=by kernel_rfl
def ty.cells:P.cellsOf 100=3:=by kernel_rfl
def ty.cell:P.cellsOf 3=1:=by kernel_rfl
def ty.Ni:P.cellsOf 179=1:=by kernel_rfl
def ty.size:0<P.types.size:=of_decide_eq_true (by kernel_rfl)
def ty.ints:P.underlying T.ints=some (.slice 3):=by kernel_rfl
def ty.rB:P.underlying T.rB=some (.slice 179):=by kernel_rfl
def ty.aP:P.underlying T.aP=some (.slice T.mono):=by kernel_rfl
def ty.Ge:P.cellsOf T.mono=6:=by kernel_rfl
def ty.weights:P.underlying T.weights=some (.slice T.weight):=by kernel_rfl
def ty.vM:P.cellsOf T.weight=8:=by kernel_rfl
def ty.aE:P.underlying T.aE=some (.slice T.I7):=by kernel_rfl
def ty.zaV:P.cellsOf T.I7=11:=by kernel_rfl
def ty.vE:P.underlying T.vE=some (.slice T.wk):=by kernel_rfl
def ty.Gb:P.cellsOf T.wk=12:=by kernel_rfl
def ty.rat:xW P T.rat=some ([(T.bool,0,1),(T.rB,1,1),(T.rB,2,1)],3):=by kernel_rfl
def ty.mono:xW P T.mono=some ([(T.key,0,3),(T.rat,3,3)],6):=by kernel_rfl
def ty.weight:xW P T.weight=some ([(T.rat,0,3),(T.int,3,1),(T.bool,4,1),(T.u64,5,1),(T.aP,6,1),(T.weights,7,1)],8):=by kernel_rfl
def ty.ring:xW P T.ring=some ([(T.int,0,1),(T.ints,1,1)],2):=by kernel_rfl
def ty.I7:xW P T.I7=some ([(T.int,0,1),(T.int,1,1),(T.int,2,1),(T.weight,3,8)],11):=by kernel_rfl
def ty.wk:xW P T.wk=some ([(T.int,0,1),(T.int,1,1),(T.int,2,1),(T.int,3,1),(T.weight,4,8)],12):=by kernel_rfl
def ty.auto:xW P T.auto=some ([(T.ring,0,2),(T.int,2,1),(T.int,3,1),(T.weights,4,1),(T.weights,5,1),(T.aE,6,1)],7):=by kernel_rfl
def ty.trans:xW P T.trans=some ([(T.ring,0,2),(T.int,2,1),(T.int,3,1),(T.int,4,1),(T.weights,5,1),(T.weights,6,1),(T.vE,7,1)],8):=by kernel_rfl
def ty.model:xW P T.model=some ([(T.int,0,1),(T.ints,1,1),(T.ints,2,1),(T.ints,3,1),(T.bool,4,1)],5):=by kernel_rfl
def ty.xS:P.underlying 65=some (.map 111 3):=by kernel_rfl
def ty.xT:Er P 111=some [.i64,.i64,.i64]:=by kernel_rfl
end Go.Ab
