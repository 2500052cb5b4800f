/-
Proofs for the law TransducerSumsPaths, part 46. Conditions: none.
-/
import Derived.Test.YtbhboeijjgiflaaGreatDoorDP45
import Derived.Test.YtbhboeijjgiflaaGreatDoorDP15
import Derived.Test.YtbhboeijjgiflaaGreatDoorDP30
set_option maxRecDepth 100000
set_option maxHeartbeats 4000000
set_option linter.all false
namespace Go.Ab
open Enc (enc)
attribute [local go_sem] zal Opd.slots
theorem yf2{t:GTrans}(ok:t.ok){a:GTArc}(ha:a∈t.arcs):(subT t a).ok:=by have hil:=ok.il;have hst:=ok.st1;obtain⟨h1,h2⟩:=z17 ok.ring (zoq ok) (show ckL t.ring t.st.toNat t.ini from ⟨ok.ini,by omega⟩) ha;have hl:(subT t a).ini.length=t.st.toNat:=h2.2;exact⟨ok.ring,ok.i1,ok.o1,ok.st1,ok.st2,by rw[hl];show _=t.st;omega,ok.fl,ok.al,ok.arcs,h2.1,ok.fin⟩
theorem yf3{t:GTrans}(hnf:t.nf=t)(a:GTArc):(subT t a).nf=subT t a:=by have h:tidT t.ring t.arcs=t.arcs:=congrArg GTrans.arcs hnf;show GTrans.mk t.ring t.i t.o t.st (subT t a).ini t.fin (tidT t.ring t.arcs)=_;rw[h];rfl
theorem z7m{t:GTrans}{M:Meas t.ring}{c:Nat}(hf:t.fits M c){a:GTArc}(ha:a∈t.arcs):(subT t a).fits M (2*c+1):=by
 have hax:=hf.arcs a ha;have hv:=yfm hf.rok hf.ini.1 a.f.toNat;refine⟨rfl,hf.st,fun x hx=>⟨⟨(hf.arcs x hx).1.1,M.mono (hf.arcs x hx).1.2 (by omega)⟩,(hf.arcs x hx).2⟩,⟨fun w hw=>?_,by simp[subT]⟩,⟨fun w hw=>⟨(hf.fin.1 w hw).1,M.mono (hf.fin.1 w hw).2 (by omega)⟩,hf.fin.2⟩,hf.rok⟩;rcases yon hw with h|rfl
 ·rw[ypv h];exact⟨zbd hf.rok,M.mono M.zero (ymv _)⟩
 ·exact⟨za9 hv.1 hax.1.1,M.mono (M.times hv.1 hax.1.1 hv.2 hax.1.2) (by omega)⟩
theorem zmv{w:List Int}{m:Int}(h:ze9 w m)(n:Nat):ze9 (w.drop n) m:=⟨h.1,by have:=h.2.1;rw[yoo];omega,fun x hx=>h.2.2 x (ynf hx)⟩
theorem zpk{t:GTrans}(M:Meas t.ring)(mp:MeasP M)(hM:M.lim=12000)(ok:t.ok)(hnf:t.nf=t){c:Nat}(hc:c<=107)(hf:t.fits M c)(hst:t.st<=3)(hal:t.arcs.length<=7)(hce:emC t=false){X Y:List Int}(lx:X.length<=2)(ly:Y.length<=2)(wx:ze9 X t.i)(wy:ze9 Y t.o)
  {a:GTArc} (ha:a∈t.arcs) (hsm:(subT t a).sm 72) :
  Sp P F.ap [enc (subT t a),.sl (ens (X.drop (stp a.i))),.sl (ens (Y.drop (stp a.o)))] (.pure (.tup [enc (wgt (subT t a) (X.drop (stp a.i)) (Y.drop (stp a.o))),.int .i64 0])) /\
  (wgt (subT t a) (X.drop (stp a.i)) (Y.drop (stp a.o))).chk t.ring/\M.mb 6500 (wgt (subT t a) (X.drop (stp a.i)) (Y.drop (stp a.o))):=by
 have hn:=yf3 hnf a;have hw:wgt (subT t a).nf (X.drop (stp a.i)) (Y.drop (stp a.o))=wgt (subT t a) (X.drop (stp a.i)) (Y.drop (stp a.o)):=by rw[hn]
 have harcs:(subT t a).nf.arcs=t.arcs:=by rw[hn];rfl
 have hem:emC (subT t a)=false:=hce;have hf':(subT t a).nf.fits M (2*c+1):=by rw[hn];exact z7m hf ha
 have hsl:sLv (2*c+1) (subT t a).nf.arcs<=223:=by rw[harcs];unfold sLv;omega
 have hst':(subT t a).st.toNat<=3:=by show t.st.toNat<=3;omega
 have hL:((X.drop (stp a.i)).length+1)*(((Y.drop (stp a.o)).length+1)*((subT t a).st.toNat*sLv (2*c+1) (subT t a).nf.arcs))<=3*(3*(3*223)) :=
  yn4 (by rw[yoo];omega) (yn4 (by rw[yoo];omega) (yn4 hst' hsl))
 obtain⟨k1,k2,k3,k4⟩:=zir (subT t a) M mp (z:=2*c+1) (n:=72) (by omega) (by omega) hsm (by show t.arcs.length<=19;omega) (yf2 ok ha) hf' (by omega) _ _ (zmv wx (stp a.i)) (zmv wy (stp a.o)) hem (by omega);rw[hw]at k1 k2 k3;exact⟨k1,k2,M.mono k3 (by omega)⟩
noncomputable def zlz(t:GTrans)(X Y:List Int)(j:Nat):GW:=(t.arcs.take j).foldl (zjd t X Y) (zij t X Y)
theorem zkk{t:GTrans}{X Y:List Int}{j:Nat}(h:j<t.arcs.length):zlz t X Y (j+1)=zjd t X Y (zlz t X Y j) t.arcs[j]:=by unfold zlz;rw[ymr h,ynn];rfl
theorem yak{t:GTrans}(ok:t.ok)(hnf:t.nf=t)(hc:emC t=false):∃ ord,tord t ord:=by
 have hst:t.st=(t.st.toNat:Nat):=by have:=ok.st1;omega
 have hfit:∀ x∈t.arcs,x.fit t.st.toNat:=fun x hx=>by have:=zgr ok x (by rw[hnf];exact hx);exact this
 obtain⟨s,hk,_⟩:=zjh t t.st.toNat hst (by have:=ok.st2;omega) (by have:=ok.al;omega) hfit;refine⟨_,(zn3 hfit hk).2 fun hlt=>?_⟩;have h:=(zn3 hfit hk).1.1 hlt;have e:emC t=cycF t.st.toNat (emP t.nf.arcs):=rfl;rw[hnf,h,hc]at e;cases e
theorem z7l{t:GTrans}(ok:t.ok)(hnf:t.nf=t)(hc:emC t=false)(X Y:List Int):zlz t X Y t.arcs.length=wgt t X Y:=by
 obtain⟨ord,ho⟩:=yak ok hnf hc;have e:zlz t X Y t.arcs.length=yb5 t X Y:=by unfold zlz yb5;rw[yn1]
 rw[e];refine yb4 ok.ring (zoq ok) (show ckL t.ring t.st.toNat t.ini from ⟨ok.ini,by have:=ok.il;omega⟩) (pos:=fun q=>ord.idxOf q) fun x hx he=>?_;obtain⟨_,⟨a2,a3⟩,a4,a5⟩:=(zoq ok).arcs x hx;exact ho.lt hx he (by omega) (by omega)
theorem zxl{t:GTrans}{M:Meas t.ring}(mp:MeasP M)(hM:M.lim=12000)(ok:t.ok)(hnf:t.nf=t){c:Nat}(hcc:c<=107)(hf:t.fits M c)(hst:t.st<=3)(hal:t.arcs.length<=7)(hce:emC t=false){X Y:List Int}(lx:X.length<=2)(ly:Y.length<=2)(wx:ze9 X t.i)(wy:ze9 Y t.o)
  (hsm:∀ a∈t.arcs,(subT t a).sm 72):∀ j,j<=t.arcs.length->(zlz t X Y j).chk t.ring/\M.mb (6500+j) (zlz t X Y j)
 | 0,_=>by
  show(zij t X Y).chk t.ring/\M.mb _ (zij t X Y);unfold zij;split
  ·have h:=zm3 (M:=M) ok.ring hf.ini.1 hf.fin.1 t.st.toNat (by rw[hf.ini.2];exact ym8 _) (by rw[hf.fin.2];exact ym8 _);rw[zfa (by rw[hf.ini.2];exact ym8 _)]at h;exact⟨h.1,M.mono h.2 (by omega)⟩
  ·exact⟨zbd ok.ring,M.mono M.zero (ymv _)⟩
 | j+1,hj=>by
  have ih:=zxl mp hM ok hnf hcc hf hst hal hce lx ly wx wy hsm j (by omega);rw[zkk (by omega)];unfold zjd;split
  ·have hm:=ym3 (show j<t.arcs.length by omega);obtain⟨_,k2,k3⟩:=zpk M mp hM ok hnf hcc hf hst hal hce lx ly wx wy hm (hsm _ hm);exact⟨zbu ih.1 k2,M.plus ih.1 k2 ih.2 (M.mono k3 (yre _ _))⟩
  ·exact⟨ih.1,M.mono ih.2 (by omega)⟩
def z1S(t:GTrans)(r:GRing)(X Y:List Int)(v:GW)(e:Int):St :=
 ⟨[(9,.ptr 9 0 0 0),(10,.ptr 10 0 0 0),(11,.p (.sl (ens X))),(12,.p (.sl (ens Y))),(13,.ptr 13 0 0 0),(14,.p (.int .i64 e))],[(9,[some ⟨2,[.p (enc r)]⟩]),(10,[some ⟨8,[.p (enc t)]⟩]),(13,[some ⟨8,[.p (enc v)]⟩]),(DEAD,[none])]⟩
theorem yfe{t:GTrans}{M:Meas t.ring}(mp:MeasP M)(hM:M.lim=12000)(ok:t.ok)(hnf:t.nf=t){c:Nat}(hcc:c<=107)(hf:t.fits M c)(hst:t.st<=3)(hal:t.arcs.length<=7)(hce:emC t=false){X Y:List Int}(lx:X.length<=2)(ly:Y.length<=2)(wx:ze9 X t.i)(wy:ze9 Y t.o)
  (hsm:∀ a∈t.arcs,(subT t a).sm 72) (vsm:(wgt t X Y).sm 1048576) (R:Exit->St->Option FA->Prop) (hR:∀ s,retP [(8,none)] (.pure (.bool true)) .ret s->R .ret s none) :
  MR P 181 spA8.er (z1S t t.ring X Y (wgt t X Y) 0) none R:=by
 have hs0:=ok.st1;obtain⟨N,hN⟩:∃ N:Nat,t.st=(N:Int):=⟨t.st.toNat,by omega⟩;have hNt:t.st.toNat=N:=by omega
 have hi:=hf.ini.2;have hfi:=hf.fin.2;have hall:=z7l ok hnf hce X Y;have hso:=zxl mp hM ok hnf hcc hf hst hal hce lx ly wx wy hsm;have keq:=zoj _ vsm (wgt t X Y);rw[decide_eq_true rfl]at keq;have lab:∀ x∈t.arcs,0<=x.i/\0<=x.o:=fun x hx=>by obtain⟨a1,a2,a3,a4,a5,a6,a7,a8,a9⟩:=ok.arcs x hx;omega
 have hl2:=fun(s:St) hw=>ygq (t:=t) (r:=t.ring) (X:=X) (Y:=Y) (v:=wgt t X Y) (zlz t X Y) (by omega) lab (fun j h hnf'=>by rw[zkk h];unfold zjd;rw[ym1 hnf']) (fun j h hfit R hn=>by
  have hm:=ym3 h;have hck:=(zoq ok).arcs _ hm;obtain⟨b1,⟨b2,b3⟩,b4,b5⟩:=hck;have hj:=hso j (by omega);obtain⟨k1,k2,k3⟩:=zpk M mp hM ok hnf hcc hf hst hal hce lx ly wx wy hm (hsm _ hm);have hfl:t.arcs[j].f.toNat<t.ini.length:=by omega
  have hg:t.ini.getD t.arcs[j].f.toNat t.ring.zero=t.ini[t.arcs[j].f.toNat]:=by rw[ymo,yms hfl];rfl
  have hiv:=hf.ini.1 _ (ym3 hfl);have hav:=(hf.arcs _ hm).1;have kt:=M.timesS (n:=c) (by omega) hiv.1 hav.1 hiv.2 hav.2;have kp:=M.plusS (n:=6500+j) (by omega) hj.1 k2 hj.2 (M.mono k3 (by omega));have hs1:zlz t X Y (j+1)=t.ring.plus (zlz t X Y j) (wgt (subT t t.arcs[j]) (X.drop (stp t.arcs[j].i)) (Y.drop (stp t.arcs[j].o))):=by rw[zkk h];unfold zjd;rw[ym0 hfit]
  rw[hs1]at hn;have k1':Sp P F.ap [enc ({ t with ini:=(List.replicate N t.ring.zero).set t.arcs[j].t.toNat (t.ring.times t.ini[t.arcs[j].f.toNat] t.arcs[j].w) }:GTrans),.sl (ens (X.drop (stp t.arcs[j].i))),.sl (ens (Y.drop (stp t.arcs[j].o)))] (.pure (.tup [enc (wgt (subT t t.arcs[j]) (X.drop (stp t.arcs[j].i)) (Y.drop (stp t.arcs[j].o))),.int .i64 0])):=by
   have e:({ t with ini:=(List.replicate N t.ring.zero).set t.arcs[j].t.toNat (t.ring.times t.ini[t.arcs[j].f.toNat] t.arcs[j].w) }:GTrans)=subT t t.arcs[j]:=by unfold subT;rw[hg,hNt]
   rw[e];exact k1
  exact q_r t t.ring X Y (wgt t X Y) (zlz t X Y j) j R t.arcs[j] N t.arcs[j].f.toNat t.arcs[j].t.toNat _ _ _ hN (by omega) (by omega) hfl (by omega) (by omega) (lab _ hm).1 (lab _ hm).2 hfit kt k1' kp hn) (s:=s) hw
 rw[hall]at hl2;have h4:∀ s,Weak s (q0S t t.ring X Y (wgt t X Y) (wgt t X Y) t.arcs.length)->MR P 181 spA4.er s none R:=fun s hw=>by
  refine MR.weak hw (MR.of_vm ?_);generalize wgt t X Y=v at *
  simp[spA4,q0S,go_sem];refine zab zqs ?_;simp[go_sem];refine zab keq ?_;simp[go_sem];exact hR _ (by simp[go_sem])
 have h5:∀ n s,Weak s (p1S t t.ring X Y (wgt t X Y) (zij t X Y) n)->MR P 181 spA5.er s none R:=fun n s hw=>by
  refine MR.weak hw ?_;have hl3:∀ s,Weak s (q0S t t.ring X Y (wgt t X Y) (zij t X Y) 0)->_:=fun s hw=>hl2 s hw;unfold spA5 spA3;generalize (GC.loop g.nm)=L at *
  generalize spA4=W4 at *
  refine MR.gseq' (MR.gseq ?_);generalize wgt t X Y=v at *
  generalize zij t X Y=b at *
  simp[p1S,go_sem];refine MR.gblk ((hl3 _ (Weak.to [9,10,11,12,13,15,17] [((9,0),9),((10,0),10),((13,0),13),((15,0),15)] ?_)).mono ?_)
  ·simp[go_sem,q0S,mkSt]
  ·rintro ex s B ⟨rfl,rfl,hw⟩;exact⟨fun _=>h4 s hw,fun h=>absurd rfl h⟩
 clear h4 hl2 keq;unfold spA8 spA1 spA7 spA6 spA2;generalize spA5=W5 at *
 refine MR.gseq ?_;simp[z1S,go_sem];refine MR.gseq ?_;simp[go_sem];refine zab (zgh t.ring) ?_;simp[go_sem];refine MR.gseq ?_;simp[go_sem];by_cases h0:X.length+Y.length=0
 ·have hX:X=[]:=ypn (by omega);have hY:Y=[]:=ypn (by omega);subst hX;subst hY;have hb:zij t [] []=sumW t.ring t.ini t.fin:=by unfold zij;rfl
  rw[hb]at h5;refine yc8 (t:=t) (M:=M) (v:=wgt t [] []) ok.ring hN (by omega) (by rw[hi];exact hNt) (by rw[hfi];exact hNt) hf.ini.1 hf.fin.1 (by omega) (Weak.to [9,10,11,12,13,15,16] [((9,0),9),((10,0),10),((13,0),13),((15,0),15)] ?_) ?_
  ·simp[go_sem,p1S,mkSt]
  ·simp[go_sem];exact h5 N _ (Weak.refl _)
 ·have hb:zij t X Y=t.ring.zero:=by unfold zij;rw[ym1 h0]
  rw[hb]at h5;refine yc9 (t:=t) (r:=t.ring) (X:=X) (Y:=Y) (v:=wgt t X Y) h0 (by omega) (by omega) (Weak.to [9,10,11,12,13,15,16] [((9,0),9),((10,0),10),((13,0),13),((15,0),15)] ?_) ?_
  ·simp[go_sem,p1S,mkSt]
  ·simp[go_sem];exact h5 0 _ (Weak.refl _)
theorem yj3{t:GTrans}{X Y:List Int}(kl:Sp P F.fi [enc t] (.pure (.bool true)))(R:Exit->St->Option FA->Prop)(hR:∀ s,retP [(8,none)] (.pure (.bool true)) .ret s->R .ret s none)(v:GW) :
  MR P 181 spA8.er (z1S t t.ring X Y v 10) none R:=by
 refine MR.of_vm ?_;unfold spA8 spA1;generalize spA7=W at *
 simp[z1S,go_sem];refine zab zqs ?_;simp[go_sem];refine zab kl ?_;simp[go_sem];exact hR _ (by simp[go_sem])
theorem sumsPaths_sp(k:Int)(m:GModel)(wi wo:List Int):Sp P F.mq [.int .i64 k,enc m,.sl (ens wi),.sl (ens wo)] (.pure (.bool true)):=by
 have hT:=zzq m (zjl k) 2 2 3 (zxs k) (by omega) (by omega) (by omega);have hts:=z64 m (zjl k) 2 2 3 (zxs k) (by omega) (by omega) (by omega);have hring:(zin m (zjl k) 2 2 3).nf.ring=zjl k:=rfl;have hi:(zin m (zjl k) 2 2 3).nf.i=2:=rfl;have ho:(zin m (zjl k) 2 2 3).nf.o=2:=rfl;generalize zin m (zjl k) 2 2 3=T at *
 have Tok:=hT.ok;have hal:=hT.al;have hst:=hT.st;have hil:=Tok.il;have hfl:=Tok.fl;have hp:T.ring.parts.length<=1000000:=by
  by_cases h6:T.ring.kind=6
  ·have:=(GRing.ok_parts Tok.ring h6).2.1;omega
  ·rw[(GRing.ok_kind Tok.ring h6).2.2];simp
 have c5:=z5f T 3 (by omega) (by omega) hT.sm (by omega) hp (by omega) hil hfl Tok.ini Tok.fin fun x hx=>(hT.arcs x hx).chk;have lx:=zsv wi 2 2;have ly:=zsv wo 2 2;have wx:=zw5 wi 2 2 (by omega) (by omega);have wy:=zw5 wo 2 2 (by omega) (by omega);have cx:=z1m wi 2 2 (by omega) (by omega) (by omega);have cy:=z1m wo 2 2 (by omega) (by omega) (by omega)
 change Sp P F.bw _ (.pure (.sl (ens (zsw wi 2 2))))at cx
 change Sp P F.bw _ (.pure (.sl (ens (zsw wo 2 2))))at cy
 generalize zsw wi 2 2=X at *
 generalize zsw wo 2 2=Y at *
 have nok:=zp3 Tok;have hnf:=yhf Tok;have nsm:=hT.nf_sm;have nal:=hT.nf_len;obtain⟨kw,ksm⟩:=z1n hT (u:=T.nf) hnf nok (n:=32) (by omega) (by omega) nsm (by omega) rfl rfl rfl X Y (by omega) (by omega) (by rw[<- hi]at wx;exact wx) (by rw[<- ho]at wy;exact wy);have kl:=z1g T.nf 32 (by omega) (by omega) nsm (by omega) nok;rw[ya5 Tok]at kl;have hsub:=fun x hx=>yb6 hT (x:=x) hx;have hmeas:∃ M:Meas T.nf.ring,M.lim=12000/\MeasP M/\T.nf.fits M (T.arcs.length+100):=zro Tok hT.lw.li (by simp[GTrans.wts];omega);have hwV:emC T=false->wV T X Y=wgt T.nf X Y/\wE T=0:=fun h=>by unfold wV wE;rw[h];exact⟨rfl,rfl⟩
 have hwE:emC T=true->wE T=10:=fun h=>by unfold wE;rw[h];rfl
 generalize wV T X Y=V at *
 generalize wE T=E at *
 have hemT:=ya5 Tok;have hTa:T.arcs.length+100<=107:=by omega
 have hstn:T.nf.st=T.st:=rfl;have hrs:=ycm k;have hz:∀ (R:Exit->St->Option FA->Prop),(∀ s,retP [(8,none)] (.pure (.bool true)) .ret s->R .ret s none)->MR P 181 spA8.er (z1S T.nf T.nf.ring X Y V E) none R:=fun R hR=>by
  cases hc:emC T with
  | true =>
   rw[hwE hc];rw[hc]at kl;exact yj3 kl R hR V
  | false =>
   obtain⟨e1,e2⟩:=hwV hc;obtain⟨M,hM,mp,hf⟩:=hmeas;rw[e1]at ksm;rw[e1,e2];exact yfe mp hM nok hnf hTa hf (by rw[hstn];exact hst) nal (by rw[hemT];exact hc) lx ly (by rw[hi];exact wx) (by rw[ho];exact wy) hsub ksm R hR
 rw[hring]at hz;clear hmeas hwV hwE kl hsub ksm;generalize T.nf=t at *
 generalize zjl k=r at *
 refine Sp.of_mr c.mq (by simp) ?_;have hz1:MR P 181 spA8.er (z1S t r X Y V E) none (fun(ex:Exit) (s:St) (_:Option FA)=>retP [(8,none)] (RV.pure (PV.bool true)) ex s):=hz _ fun s h=>h;clear hz;generalize (fun(ex:Exit) (s:St) (_:Option FA)=>retP [(8,none)] (RV.pure (PV.bool true)) ex s)=R at *
 rw[ygd];unfold yce yge ygf spA9;generalize spA8=W8 at *
 refine MR.gseq ?_;simp[go_sem];refine MR.gseq ?_;simp[go_sem];refine zab hrs ?_;simp[go_sem];refine MR.gseq ?_;simp[go_sem];refine zab hts ?_;simp[go_sem];refine zab c5 ?_;simp[go_sem];refine MR.gseq ?_;simp[go_sem];refine zab cx ?_;simp[go_sem];refine zab cy ?_;simp[go_sem];refine MR.gseq ?_;simp[go_sem];refine zab kw ?_;simp[go_sem];refine MR.weak (Weak.to [9,10,11,12,13,14] [((9,0),9),((10,0),10),((13,0),13)] ?_) hz1;simp[go_sem,z1S,mkSt]
end Go.Ab
set_option linter.all false
namespace Go.Ab
open Enc (enc)
section
variable {H:Type} {en:TypeId × Value->H} {w:World}
theorem rdInt(n:Nat):RdN en P w n T.int (IsC Int):=ygm ty.int
theorem rdBool(n:Nat):RdN en P w n T.bool (IsC Bool):=ycp ty.bool
theorem rdInts(n:Nat):RdN en P w n T.ints (IsC (List Int)):=z78 (fun _=>rfl) (fun _=>rfl) ty.ints ty.cell fun k _=>rdInt k
theorem gmodel_one(x:GModel):(enc x).cells.all PV.one=true:=by simp[go_sem,PV.cells]
theorem rdModel(n:Nat):RdN en P w n T.model (IsC GModel):=z2y (Ds:=[IsC Int,IsC (List Int),IsC (List Int),IsC (List Int),IsC Bool]) ty.model rfl (fun m _=>⟨rdInt m,rdInts m,rdInts m,rdInts m,rdBool m,trivial⟩) fun ls h=>by obtain⟨_,ls1,rfl,⟨a,rfl⟩,h1⟩:=h.cons;obtain⟨_,ls2,rfl,⟨b,rfl⟩,h2⟩:=h1.cons;obtain⟨_,ls3,rfl,⟨c,rfl⟩,h3⟩:=h2.cons;obtain⟨_,ls4,rfl,⟨d,rfl⟩,h4⟩:=h3.cons;obtain⟨_,ls5,rfl,⟨e,rfl⟩,h5⟩:=h4.cons;obtain rfl:=h5.nil;exact⟨⟨a,b,c,d,e⟩,by simp[PV.cells,go_sem]⟩
end
end Go.Ab
