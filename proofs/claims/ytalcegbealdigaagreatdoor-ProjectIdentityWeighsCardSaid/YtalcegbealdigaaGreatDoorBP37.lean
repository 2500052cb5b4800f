/-
Proofs for the law ProjectIdentityWeighs, part 37. Conditions: none.
-/
import Derived.Test.YtalcegbealdigaaGreatDoorBP28
import Derived.Test.YtalcegbealdigaaGreatDoorBP11
import Derived.Test.YtalcegbealdigaaGreatDoorBP36
import Derived.Test.YtalcegbealdigaaGreatDoorBP29
import Derived.Test.YtalcegbealdigaaGreatDoorBP30
set_option maxRecDepth 100000
set_option maxHeartbeats 4000000
set_option linter.all false
namespace Go.Ab
open Enc (enc)
attribute [local go_sem] zas Opd.slots
def gw0':GW:=.mk ⟨false,[],[]⟩ 0 false 0 [] []
theorem zte (df:FuncId) (caps:List PV) (p:GArc->Bool) (l:List GArc) (hl:l.length<=1000000) (hp:∀ x∈l,Sp P df (enc x::caps) (.pure (.bool (p x)))) :
  SpM P F.l4 [.sl (ens l),.fn df caps] 0 11 (ens (l.filter (fun x => !p x)++List.replicate (l.length - (l.filter fun x => !p x).length) (⟨0,0,0,gw0'⟩:GArc))) (.same (l.filter fun x => !p x).length):=by
 have hfl:(l.filter fun x => !p x).length<=l.length:=List.length_filter_le _ _
 refine SpM.of_vm c.l4 (by simp) rfl (by simp [go_sem]; omega) ?_
 simp [g.l4,go_sem]
 refine zab (zks l df caps p (by omega) hp) ?_
 cases hi:l.findIdx? p with
 | none =>
  have hn:=List.findIdx?_eq_none_iff.1 hi
  have hf:l.filter (fun x => !p x)=l:=List.filter_eq_self.2 fun x hx=>by simp [hn x hx]
  have hx:idxI p l = -1:=by simp [idxI,hi]
  simp [hx,hf,go_sem]
 | some k =>
  obtain ⟨hk,hpk,hbef⟩:=List.findIdx?_eq_some_iff_getElem.1 hi
  have hx:idxI p l=k:=by simp [idxI,hi]
  have hne:¬ ((k:Int) = -1):=by omega
  have e1:=i64s k (by omega)
  simp [hx,hne,e1,go_sem]
  have htk:(l.take k).filter (fun x => !p x)=l.take k:=List.filter_eq_self.2 fun x hx=>by
   rw [List.mem_take_iff_getElem] at hx
   obtain ⟨i,hi,rfl⟩:=hx
   have:=hbef i (by omega)
   simpa using this
  have htk1:(l.take (k+1)).filter (fun x => !p x)=l.take k:=by
   rw [List.take_succ_eq_append_getElem hk,List.filter_append,htk]; simp [hpk]
  refine zag (S:=fun x:List GArc × Nat × Nat=>mkSt [(0,.own PIN 0 0 l.length),(1,.p (.fn df caps)),(5,.p (.int .i64 x.2.1)),(6,.p (.int .i64 x.2.2))] [(PIN,⟨11,avs x.1⟩)])
   (I:=fun x=>x.1.length=l.length/\x.2.1<x.2.2/\x.2.2<=l.length/\x.1.take x.2.1=(l.take x.2.2).filter (fun x => !p x)/\x.1.drop x.2.2=l.drop x.2.2/\x.2.1<=l.length) (m:=fun x=>l.length - x.2.2) (l,k,k+1)
   (Weak.to [0,1,5,6] [((PIN,0),PIN)] (by simp [go_sem])) ⟨rfl,by simp,by simp; omega,by rw [htk1],rfl,by simp; omega⟩ ?_
  rintro ⟨L,i,j⟩ ⟨h1,h2,h3,h4,h5,h6⟩ R hn hr hx2
  simp only at h1 h2 h3 h4 h5 h6
  simp [g.sj,mkSt,go_sem]
  refine ⟨fun hj=>?_,fun hj=>hx2 _ _ ?_⟩
  ·have e2:=i64s j (by omega)
   have e3:=i64s i (by omega)
   have hjL:L[j]?=some l[j]:=by
    have:(L.drop j)[0]?=(l.drop j)[0]?:=by rw [h5]
    simpa [hj] using this
   refine ⟨by omega,zb2 hjL ?_⟩
   try simp [go_sem]
   refine zaa (hp l[j] (List.getElem_mem hj)) (zbw (by simp [go_sem]) (zed _ _)) ?_
   have htj:(l.take (j+1)).filter (fun x => !p x)=(l.take j).filter (fun x => !p x)++(if p l[j] then [] else [l[j]]):=by
    rw [List.take_succ_eq_append_getElem hj,List.filter_append]
    by_cases h:p l[j]<;>simp [h]
   rcases Bool.eq_false_or_eq_true (p l[j]) with h7|h7
   ·simp [h7,e2,go_sem]
    refine hn (L,i,j+1) _ (Weak.to [0,1,5,6] [((PIN,0),PIN)] (by simp [go_sem])) ⟨h1,by show i<j+1; omega,by show j+1<=l.length; omega,by show L.take i=_; rw [htj,h4]; simp [h7],?_,h6⟩ (by show l.length - (j+1)<l.length - j; omega)
    show L.drop (j+1)=l.drop (j+1)
    rw [<- List.drop_drop,h5,List.drop_drop]
   ·simp [h7,go_sem]
    refine ⟨by omega,?_⟩
    refine zb2 (l:=L) (n:=i) (x:=L[i]'(by omega)) (by simp) ?_
    simp [e2,e3,go_sem]
    have htki:(L.set i l[j]).take (i+1)=L.take i++[l[j]]:=by
     rw [List.take_succ_eq_append_getElem (by simp; omega),List.take_set_of_le (Nat.le_refl i)]
     simp
    refine hn (L.set i l[j],i+1,j+1) _ (Weak.to [0,1,5,6] [((PIN,0),PIN)] (by simp [go_sem])) ⟨by simp [h1],by show i+1<j+1; omega,by show j+1<=l.length; omega,by show (L.set i l[j]).take (i+1)=_; rw [htki,htj,h4]; simp [h7],?_,by show i+1<=l.length; omega⟩ (by show l.length - (j+1)<l.length - j; omega)
    show (L.set i l[j]).drop (j+1)=l.drop (j+1)
    rw [List.drop_set_of_lt (by omega),<- List.drop_drop,h5,List.drop_drop]
  ·have hjl:j=l.length:=by omega
   subst hjl
   rw [List.take_length] at h4
   have hil:i=(l.filter fun x => !p x).length:=by rw [<- h4]; simp; omega
   generalize (l.filter fun x => !p x)=D at *
   subst hil
   have ht:(avs L).take D.length=avs D:=by rw [zra,h4]
   have hm1:min D.length l.length=D.length:=Nat.min_eq_left h6
   have hm2:D.length+(l.length - D.length)=l.length:=by omega
   simp [go_sem,h1,h6,hm1,hm2,h4]
   have hdl:L.drop l.length=[]:=by rw [<- h1]; simp
   rw [hdl,z3f,List.append_nil]
   rfl
theorem zqw (df:FuncId) (caps:List PV) (p:GTArc->Bool) (l:List GTArc) (hl:l.length<=1000000) (hp:∀ x∈l,Sp P df (enc x::caps) (.pure (.bool (p x)))) :
  SpM P F.kw [.sl (ens l),.fn df caps] 0 12 (ens (l.filter (fun x => !p x)++List.replicate (l.length - (l.filter fun x => !p x).length) (⟨0,0,0,0,gw0'⟩:GTArc))) (.same (l.filter fun x => !p x).length):=by
 have hfl:(l.filter fun x => !p x).length<=l.length:=List.length_filter_le _ _
 refine SpM.of_vm c.kw (by simp) rfl (by simp [go_sem]; omega) ?_
 simp [g.kw,go_sem]
 refine zab (zqr l df caps p (by omega) hp) ?_
 cases hi:l.findIdx? p with
 | none =>
  have hn:=List.findIdx?_eq_none_iff.1 hi
  have hf:l.filter (fun x => !p x)=l:=List.filter_eq_self.2 fun x hx=>by simp [hn x hx]
  have hx:idxI p l = -1:=by simp [idxI,hi]
  simp [hx,hf,go_sem]
 | some k =>
  obtain ⟨hk,hpk,hbef⟩:=List.findIdx?_eq_some_iff_getElem.1 hi
  have hx:idxI p l=k:=by simp [idxI,hi]
  have hne:¬ ((k:Int) = -1):=by omega
  have e1:=i64s k (by omega)
  simp [hx,hne,e1,go_sem]
  have htk:(l.take k).filter (fun x => !p x)=l.take k:=List.filter_eq_self.2 fun x hx=>by
   rw [List.mem_take_iff_getElem] at hx
   obtain ⟨i,hi,rfl⟩:=hx
   have:=hbef i (by omega)
   simpa using this
  have htk1:(l.take (k+1)).filter (fun x => !p x)=l.take k:=by
   rw [List.take_succ_eq_append_getElem hk,List.filter_append,htk]; simp [hpk]
  refine zag (S:=fun x:List GTArc × Nat × Nat=>mkSt [(0,.own PIN 0 0 l.length),(1,.p (.fn df caps)),(5,.p (.int .i64 x.2.1)),(6,.p (.int .i64 x.2.2))] [(PIN,⟨12,avs x.1⟩)])
   (I:=fun x=>x.1.length=l.length/\x.2.1<x.2.2/\x.2.2<=l.length/\x.1.take x.2.1=(l.take x.2.2).filter (fun x => !p x)/\x.1.drop x.2.2=l.drop x.2.2/\x.2.1<=l.length) (m:=fun x=>l.length - x.2.2) (l,k,k+1)
   (Weak.to [0,1,5,6] [((PIN,0),PIN)] (by simp [go_sem])) ⟨rfl,by simp,by simp; omega,by rw [htk1],rfl,by simp; omega⟩ ?_
  rintro ⟨L,i,j⟩ ⟨h1,h2,h3,h4,h5,h6⟩ R hn hr hx2
  simp only at h1 h2 h3 h4 h5 h6
  simp [g.rp,mkSt,go_sem]
  refine ⟨fun hj=>?_,fun hj=>hx2 _ _ ?_⟩
  ·have e2:=i64s j (by omega)
   have e3:=i64s i (by omega)
   have hjL:L[j]?=some l[j]:=by
    have:(L.drop j)[0]?=(l.drop j)[0]?:=by rw [h5]
    simpa [hj] using this
   refine ⟨by omega,zb2 hjL ?_⟩
   try simp [go_sem]
   refine zaa (hp l[j] (List.getElem_mem hj)) (zbw (by simp [go_sem]) (zed _ _)) ?_
   have htj:(l.take (j+1)).filter (fun x => !p x)=(l.take j).filter (fun x => !p x)++(if p l[j] then [] else [l[j]]):=by
    rw [List.take_succ_eq_append_getElem hj,List.filter_append]
    by_cases h:p l[j]<;>simp [h]
   rcases Bool.eq_false_or_eq_true (p l[j]) with h7|h7
   ·simp [h7,e2,go_sem]
    refine hn (L,i,j+1) _ (Weak.to [0,1,5,6] [((PIN,0),PIN)] (by simp [go_sem])) ⟨h1,by show i<j+1; omega,by show j+1<=l.length; omega,by show L.take i=_; rw [htj,h4]; simp [h7],?_,h6⟩ (by show l.length - (j+1)<l.length - j; omega)
    show L.drop (j+1)=l.drop (j+1)
    rw [<- List.drop_drop,h5,List.drop_drop]
   ·simp [h7,go_sem]
    refine ⟨by omega,?_⟩
    refine zb2 (l:=L) (n:=i) (x:=L[i]'(by omega)) (by simp) ?_
    simp [e2,e3,go_sem]
    have htki:(L.set i l[j]).take (i+1)=L.take i++[l[j]]:=by
     rw [List.take_succ_eq_append_getElem (by simp; omega),List.take_set_of_le (Nat.le_refl i)]
     simp
    refine hn (L.set i l[j],i+1,j+1) _ (Weak.to [0,1,5,6] [((PIN,0),PIN)] (by simp [go_sem])) ⟨by simp [h1],by show i+1<j+1; omega,by show j+1<=l.length; omega,by show (L.set i l[j]).take (i+1)=_; rw [htki,htj,h4]; simp [h7],?_,by show i+1<=l.length; omega⟩ (by show l.length - (j+1)<l.length - j; omega)
    show (L.set i l[j]).drop (j+1)=l.drop (j+1)
    rw [List.drop_set_of_lt (by omega),<- List.drop_drop,h5,List.drop_drop]
  ·have hjl:j=l.length:=by omega
   subst hjl
   rw [List.take_length] at h4
   have hil:i=(l.filter fun x => !p x).length:=by rw [<- h4]; simp; omega
   generalize (l.filter fun x => !p x)=D at *
   subst hil
   have ht:(avs L).take D.length=avs D:=by rw [zra,h4]
   have hm1:min D.length l.length=D.length:=Nat.min_eq_left h6
   have hm2:D.length+(l.length - D.length)=l.length:=by omega
   simp [go_sem,h1,h6,hm1,hm2,h4]
   have hdl:L.drop l.length=[]:=by rw [<- h1]; simp
   rw [hdl,z3f,List.append_nil]
   rfl
end Go.Ab
namespace Go.Ab
open Enc (enc)
@[go_sem] theorem yay {P:Program} {N:Nat} {Q:Exit->St->Prop} {α : Type} [Enc α] (o:List α) (x:AV) (f:AV->Outc) (d:Option Nat) (dd:List (List Nat)) (ks:List Kt):vmO P N Q (.el (avs o++[x]) o.length f) d dd ks=vmO P N Q (f x) d dd ks:=by
 have:(avs o++[x])[o.length]?=some x:=by rw [List.getElem?_append_right (by simp [go_sem])]; simp [go_sem]
 simp only [vmO,runO,this]
 exact propext ⟨fun ⟨e,h,k⟩=>by cases h; exact k,fun k=>⟨_,rfl,k⟩⟩
@[go_sem] theorem ydk {α : Type} [Enc α] (o:List α) (x y:AV):(avs o++[x]).set o.length y=avs o++[y]:=by
 rw [List.set_append_right _ _ (by simp [go_sem])]; simp [go_sem]
theorem zvs {α : Type} [Enc α] (l:List α) (r:List α):((ens (l++r)).map AV.p).take l.length=avs l:=by simp [avs,ens]
theorem zhl {st:St} {f:FuncId} {e:Nat} {vs:List AV} {args:List PV} {sz:Nat} {es:List PV} {K:PCall->AV->St->Prop} (hs:Sp P f args (.fresh sz es)) (hv:vs.mapM (toPV st FUEL)=some args)
  (h:es.all (fun v=>v.sz == sz)=true/\0<sz/\es.length<=LIM) (h0:vs.flatMap (deps st FUEL)=[])
  (k:K ⟨f,args,.fresh sz es,none⟩ (.own e (st.site e).length 0 es.length) (st.alloc e ⟨sz,es.map .p⟩)):zk5 P st e f vs K :=
 zij hs hv h st (by rw [h0]; simp [killAll]) k
theorem zpj {st:St} {f:FuncId} {e:Nat} {vs:List AV} {args:List PV} {i sz:Nat} {es':List PV} {r:PV} {K:PCall->AV->St->Prop} (hs:SpM P f args i sz es' (.pure r)) (hv:vs.mapM (toPV st FUEL)=some args)
  {s g len:Nat} {sl:Bool} (href:zkk vs[i]?=some (s,g,len,sl)) {o:AObj} (ho:st.obj s g=some o) (hi:i<vs.length) (hl:len=o.es.length) (hl2:es'.length=len) (hsz:o.sz=sz) (hall:es'.all (fun v=>v.sz == sz)=true) (hone:(es'.flatMap PV.cells).all PV.one=true)
  (h0:(vs.eraseIdx i).flatMap (deps st FUEL)++o.es.flatMap (deps st 4)=[])
  (k:K ⟨f,args,.pure r,some (i,sz,es')⟩ (.p r) (st.setObj s g ⟨sz,es'.map .p⟩)):zk5 P st e f vs K:=by
 refine zdz hs hv href ho hi hl hl2 hsz hall hone (by rw [h0]; rfl) ?_
 rw [h0]
 simpa [killAll] using k
theorem zzq (x:GArc) (r:GRing) (hw:x.w.sm 1048576):Sp P F.ii [enc x,.ref (enc r)] (.pure (.bool (decide (x.w=r.zero)))):=by
 refine Sp.of_vmW c.ii (by simp) (Weak.openRef (t:=1) (v:=enc r) (n:=2) (by simp [go_sem]) (by simp [go_sem])) ?_
 simp [g.ii,go_sem]
 refine zab (zo3 r x.w hw) ?_
 simp [go_sem]
def upA (r:GRing) (z y:GArc):GArc:=⟨z.f,z.l,z.t,r.plus z.w y.w⟩
noncomputable def tidA (r:GRing) (l:List GArc):List GArc:=(mrg GArc.key (upA r) id (srt GArc.key l)).filter fun x => !decide (x.w=r.zero)
theorem zru {r:GRing} {n:Nat} (hn1:1<=n) {l:List GArc} (h:∀ x∈l,x.w.sm n/\x.w.chk r) (k:Nat) (hk:k<=l.length) :
  (mrg GArc.key (upA r) id (l.take k)).length<=k/\∀ x∈mrg GArc.key (upA r) id (l.take k),x.w.sm ((k+1)*(n+1))/\x.w.chk r:=by
 refine zmn (up:=upA r) (nw:=id) (Q:=fun k x=>x.w.sm ((k+1)*(n+1))/\x.w.chk r) (fun k x hx=>⟨hx.1.mono (Nat.mul_le_mul_right _ (by omega)),hx.2⟩) (fun x hx=>⟨(h x hx).1.mono (by omega),(h x hx).2⟩) (fun k z x hx hz=>⟨?_,(zbs hz.2 (h x hx).2:(r.plus z.w x.w).chk r)⟩) (fun k x hx=>⟨hx.1.mono (Nat.mul_le_mul_right _ (by omega)),hx.2⟩) k hk
 have:=zp3 hz.1 (h x hx).1 hz.2 (h x hx).2 (Nat.le_trans hn1 (by rw [Nat.add_mul]; omega)) hn1
 have e:(k+1)*(n+1)+n+1=(k+1+1)*(n+1):=by rw [Nat.add_mul (k+1) 1]; omega
 rw [<- e]; exact this
theorem z34 (r:GRing) (l:List GArc) (n:Nat) (hn:n<=90) (hn1:3<=n) (hl:l.length<=19) (h:∀ x∈l,x.w.sm n/\x.w.chk r) :
  Sp P F.ky [enc r,.sl (ens l)] (.pure (.sl (ens (tidA r l)))):=by
 have hs:=za4 (key:=GArc.key) l
 have h':∀ x∈srt GArc.key l,x.w.sm n/\x.w.chk r:=fun x hx=>h x ((hs.2.2 x).1 hx)
 have inv:=zru (by omega) h'
 unfold tidA
 generalize hS:srt GArc.key l=S at *
 have hSl:S.length=l.length:=hs.2.1
 have hone:∀ x:GArc,(enc x).cells.all PV.one=true:=fun x=>by simp [go_sem,PV.cells]
 refine Sp.vz c.ky fun _=>?_
 simp [g.ky,go_sem]
 refine zhl (zq3 l (by omega)) (by simp [go_sem]) ⟨zda _ _ rfl,by decide,by simp [ens,LIM]; omega⟩ (by simp [go_sem]) ?_
 simp [go_sem]
 refine zpj (zpw rfl hone GArc.key F.bz l hl fun x hx y hy=>⟨_,zoo x y,zmu rfl⟩) (by simp [go_sem]) rfl rfl (by simp) (by simp [go_sem]) (by simp [go_sem,hS,hSl]) rfl (zda _ _ rfl) (cells_one hone _) (by simp [go_sem]) ?_
 simp [go_sem]
 rw [hS]
 have hone':3<=n+1:=by omega
 refine zag (S:=fun k:Nat=>mkSt [(2,.ptr 2 0 0 0),(6,.own 1 0 0 (mrg GArc.key (upA r) id (S.take k)).length),(14,.own 3 0 0 S.length),(15,.p (.int .i64 S.length)),(16,.p (.int .i64 k))] [(2,⟨2,[.p (enc r)]⟩),(1,⟨11,avs (mrg GArc.key (upA r) id (S.take k))⟩),(3,⟨11,avs S⟩)]) (I:=fun k=>k<=S.length) (m:=fun k=>S.length - k) 0
  (Weak.nl 6 77 11 rfl (Weak.to [2,6,14,15,16] [((2,0),2),((77,0),1),((11,0),3)] (by simp [go_sem,hSl,mrg]))) (by omega) ?_
 rintro k h1 R hn' hr hx
 have e3:=i64s k (by omega)
 obtain ⟨iv1,iv2⟩:=inv k h1
 generalize hO:mrg GArc.key (upA r) id (S.take k)=O at *
 by_cases hk:k<S.length
 rotate_left
 ·have:k=S.length:=by omega
  subst this
  rw [List.take_of_length_le (Nat.le_refl _)] at hO
  rw [hO] at hx hr
  have hb:(O.length+1)*(n+1)<=1048576:=by
   have:=Nat.mul_le_mul (show O.length+1<=20 by omega) (show n+1<=91 by omega)
   omega
  have hb2:(S.length+1)*(n+1)<=1048576:=by
   have:=Nat.mul_le_mul (show S.length+1<=20 by omega) (show n+1<=91 by omega)
   omega
  simp [g.om,mkSt,go_sem]
  refine hx _ _ ?_
  simp [go_sem]
  refine zpi (zte F.ii [.ref (enc r)] (fun x=>decide (x.w=r.zero)) O (by omega) fun x hx=>zzq x r ((iv2 x hx).1.mono hb2)) (by simp [go_sem,zfl,zju]) rfl rfl (by simp) (by simp [go_sem]) (by simp [go_sem]; have:=List.length_filter_le (fun x:GArc => !decide (x.w=r.zero)) O; omega) rfl (zda _ _ rfl) (cells_one hone _) (by simp [go_sem]) (List.length_filter_le _ _) ?_
  generalize hF:O.filter (fun x => !decide (x.w=r.zero))=F0 at *
  have hFl:F0.length<=O.length:=by rw [<- hF]; exact List.length_filter_le _ _
  have hA1:=zvs F0 (List.replicate (O.length - F0.length) (⟨0,0,0,gw0'⟩:GArc))
  have hA2:F0.length<=(ens (F0++List.replicate (O.length - F0.length) (⟨0,0,0,gw0'⟩:GArc))).length:=by simp [ens]
  generalize ens (F0++List.replicate (O.length - F0.length) (⟨0,0,0,gw0'⟩:GArc))=A0 at *
  cases hfl:A0.all PV.flat
  ·simp [go_sem,killAll]
   rw [hA1]; simp [go_sem,hA2]
  ·simp [go_sem,killAll]
   rw [hA1]; simp [go_sem,hA2]
 have hw:=h' _ (List.getElem_mem hk)
 have hnx:=zf9 (key:=GArc.key) (up:=upA r) (nw:=id) hk
 rw [hO] at hnx
 have cz:=zbn hw.2.1
 have sz:=ztw (n:=n) hw.2.1 hn1
 have pz:=zci hw.2
 rcases List.eq_nil_or_concat O with rfl|⟨o,z,rfl⟩
 ·simp [g.om,mkSt,go_sem,hk]
  refine zae hk ?_
  refine zaa (zfy r) rfl ?_
  simp [go_sem]
  refine zab (zf5 r S[k].w r.zero n hw.1 sz (by omega) (by omega) hw.2 cz) ?_
  rw [pz]
  simp [go_sem,e3]
  refine hn' (k+1) _ (Weak.to [2,6,14,15,16] [((2,0),2),((59,0),1),((3,0),3)] ?_) (by omega) (by omega)
  rw [hnx]
  simp [mkSt,go_sem,mst]
 ·have e4:IntKind.i64.wrap (o.length:Int)=(o.length:Int):=i64w (by omega) (by simp at iv1; omega)
  simp [g.om,mkSt,go_sem,hk,e4]
  refine zae hk ?_
  refine zab (zoo z S[k]) ?_
  simp [go_sem,e4]
  have hz:=iv2 z (by simp)
  have hb2:(k+1)*(n+1)<=2000:=by
   have:=Nat.mul_le_mul (show k+1<=20 by omega) (show n+1<=91 by omega)
   omega
  have hb3:n<=(k+1)*(n+1):=by rw [Nat.add_mul]; omega
  have hle:lexI z.key S[k].key=0 ↔ z.key=S[k].key:=zid (by simp [GArc.key])
  refine ⟨fun h0=>?_,fun h0=>?_⟩
  ·rw [List.concat_eq_append,zqa (key:=GArc.key) (z:=z) (y:=S[k]) (hle.1 h0)] at hnx
   refine zab (zf5 r z.w S[k].w _ hz.1 (hw.1.mono hb3) hb2 (by omega) hz.2 hw.2) ?_
   simp [go_sem,e3,e4]
   refine hn' (k+1) _ (Weak.to [2,6,14,15,16] [((2,0),2),((1,0),1),((3,0),3)] ?_) (by omega) (by omega)
   rw [hnx]
   simp [mkSt,go_sem,upA]
  ·rw [List.concat_eq_append,zml (key:=GArc.key) (z:=z) (y:=S[k]) (fun h=>h0 (hle.2 h))] at hnx
   refine zaa (zfy r) rfl ?_
   simp [go_sem]
   refine zab (zf5 r S[k].w r.zero n hw.1 sz (by omega) (by omega) hw.2 cz) ?_
   rw [pz]
   simp [go_sem,e3]
   refine ⟨by simp at iv1; omega,hn' (k+1) _ (Weak.to [2,6,14,15,16] [((2,0),2),((59,0),1),((3,0),3)] ?_) (by omega) (by omega)⟩
   rw [hnx]
   simp [mkSt,go_sem,upA]
end Go.Ab
namespace Go.Ab
open Enc (enc)
structure GAuto.ok (a:GAuto):Prop where
 ring:a.ring.ok=true
 sy1:1<=a.sy
 sy2:a.sy<=32
 st1:0<=a.st
 st2:a.st<=64
 il:(a.ini.length:Int)=a.st
 fl:(a.fin.length:Int)=a.st
 al:a.arcs.length<=2048
 arcs:∀ x∈a.arcs,inA x a
 ini:∀ w∈a.ini,w.chk a.ring
 fin:∀ w∈a.fin,w.chk a.ring
theorem yaa {r:GRing} {l:List GW}:(!l.any fun w => !decide (w.chk r))=true ↔ ∀ w∈l,w.chk r:=by
 simp
theorem GAuto.vb_iff {a:GAuto}:a.vb=true ↔ a.ok:=by
 unfold GAuto.vb
 simp only [Bool.and_eq_true,decide_eq_true_eq,yaa]
 constructor
 ·rintro ⟨h1,h2,h3,h4,h5,h6,h7,h8,h9,h10,h11⟩
  exact ⟨h1,h2,h3,h4,h5,h6,h7,h8,fun x hx=>by simpa using (by simpa using h9:∀ x∈a.arcs,inA x a) x hx,h10,h11⟩
 ·rintro ⟨h1,h2,h3,h4,h5,h6,h7,h8,h9,h10,h11⟩
  exact ⟨h1,h2,h3,h4,h5,h6,h7,h8,by simpa using h9,h10,h11⟩
def zkv:GAuto:=⟨⟨0,[]⟩,0,0,[],[],[]⟩
noncomputable def GAuto.nf (a:GAuto):GAuto:=⟨a.ring,a.sy,a.st,a.ini,a.fin,tidA a.ring a.arcs⟩
theorem GAuto.sm.mono {a:GAuto} {m n:Nat} (h:a.sm m) (k:m<=n):a.sm n:=⟨fun w hw=>(h.ini w hw).mono k,fun w hw=>(h.fin w hw).mono k,fun x hx=>(h.arcs x hx).mono k⟩
theorem z93 {r:GRing} {l:List GW} (h:∀ w∈l,w.chk r):(l.map fun w=>r.plus w r.zero)=l:=by
 have:(l.map fun w=>r.plus w r.zero)=l.map id:=List.map_congr_left fun w hw=>zci (h w hw)
 rw [this,List.map_id]
theorem z1h {r:GRing} (h:r.ok=true):r.parts.length<=3:=by
 by_cases h6:r.kind=6
 ·exact (GRing.ok_parts h h6).2.1
 ·simp [(GRing.ok_kind h h6).2.2]
theorem zll (r:GRing) (l:List GW) (n:Nat) (hn:n<=90) (hn1:3<=n) (hr:r.ok=true) (hl:l.length<=64) (h:∀ w∈l,w.sm n) (c:∀ w∈l,w.chk r):Sp P F.cq [enc r,.sl (ens l)] (.pure (.sl (ens l))):=by
 have k:=z6u r l n (by omega) (by omega) (by omega) (fun w hw=>⟨h w hw,c w hw⟩) (ztw hr hn1) (zbn hr)
 rwa [z93 c] at k
theorem zyf (a:GAuto) (n:Nat) (hn:n<=90) (hn1:3<=n) (h:a.sm n) (hl:a.arcs.length<=19) :
  Sp P F.ke [enc a] (.pure (.tup [enc (if a.vb then a.nf else zkv),.int .i64 (if a.vb then 0 else 4)])):=by
 refine Sp.vz c.ke fun _=>?_
 simp [g.ke,go_sem]
 refine zab (zrl a (h.mono (by omega))) ?_
 cases hv:a.vb
 ·simp [go_sem,zkv]
 have ok:=GAuto.vb_iff.1 hv
 have i1:=ok.il; have i2:=ok.fl; have i3:=ok.st2
 simp [go_sem]
 refine zab (z4t a.ring (by have:=z1h ok.ring; omega)) ?_
 simp [go_sem]
 refine zab (zll a.ring a.ini n hn hn1 ok.ring (by omega) h.ini ok.ini) ?_
 simp [go_sem]
 refine zab (zll a.ring a.fin n hn hn1 ok.ring (by omega) h.fin ok.fin) ?_
 simp [go_sem]
 refine zab (z34 a.ring a.arcs n hn hn1 hl fun x hx=>⟨h.arcs x hx,(ok.arcs x hx).2.2.2.2.2.2⟩) ?_
 simp [go_sem,GAuto.nf]
end Go.Ab
namespace Go.Ab
open Enc (enc)
theorem zon (x y:GTArc):Sp P F.dg [enc x,enc y] (.pure (.int .i64 (lexI x.key y.key))):=by
 rw [<- zka x.key y.key rfl,show List.zipWith cmpI x.key y.key=[cmpI x.f y.f,cmpI x.i y.i,cmpI x.o y.o,cmpI x.t y.t] from rfl]
 refine Sp.vz c.dg fun _=>?_
 simp [g.dg,go_sem]
 refine zaa (zfg x.f y.f) rfl ?_
 simp [go_sem]
 refine zaa (zfg x.i y.i) rfl ?_
 simp [go_sem]
 refine zaa (zfg x.o y.o) rfl ?_
 simp [go_sem]
 refine zaa (zfg x.t y.t) rfl ?_
 simp [go_sem]
 refine zab (zxk [cmpI x.f y.f,cmpI x.i y.i,cmpI x.o y.o,cmpI x.t y.t] (by simp)) ?_
 simp [go_sem]
theorem zpl (r:GRing) (w:GW) (hw:w.sm 1048576):Sp P F.g9 [enc w,.ref (enc r)] (.pure (.bool (!decide (w.chk r)))):=by
 refine Sp.of_vmW c.g9 (by simp) (Weak.openRef (t:=1) (v:=enc r) (n:=2) (by simp [go_sem]) (by simp [go_sem])) ?_
 simp [g.g9,go_sem]
 refine zab (zhh r w hw) ?_
 simp [go_sem]
theorem zlo (r:GRing) (l:List GW) (m:Int) (hl:∀ w∈l,w.sm 1048576) (hlen:l.length<=2147483648):Sp P F.kr [enc r,.sl (ens l),.int .i64 m] (.pure (.bool (decide ((l.length:Int)=m/\∀ w∈l,w.chk r)))):=by
 refine Sp.vz c.kr fun _=>?_
 have e:decide ((l.length:Int)=m/\∀ w∈l,w.chk r)=(decide ((l.length:Int)=m) && !l.any fun w => !decide (w.chk r)):=by
  rw [Bool.eq_iff_iff]; simp
 rw [e]
 simp [g.kr,go_sem]
 refine ⟨fun h=>?_,fun h=>by simp [h]⟩
 refine zaa (zh2 l F.g9 [.ref (enc r)] (fun w => !decide (w.chk r)) (by omega) fun w hw=>zpl r w (hl w hw)) (by simp [go_sem,zfl,zju]) ?_
 simp [go_sem,h]
theorem zlv (m:Int):Sp P F.kq [.int .i64 m] (.pure (.bool (decide (1<=m/\m<=32)))):=by
 refine Sp.vz c.kq fun _=>?_
 simp [g.kq,go_sem]
 exact ⟨fun h _=>h,fun h h'=>by omega⟩
end Go.Ab
namespace Go.Ab
open Enc (enc)
theorem zx0 (x:GTArc) (r:GRing) (hw:x.w.sm 1048576):Sp P F.gi [enc x,.ref (enc r)] (.pure (.bool (decide (x.w=r.zero)))):=by
 refine Sp.of_vmW c.gi (by simp) (Weak.openRef (t:=1) (v:=enc r) (n:=2) (by simp [go_sem]) (by simp [go_sem])) ?_
 simp [g.gi,go_sem]
 refine zab (zo3 r x.w hw) ?_
 simp [go_sem]
def upT (r:GRing) (z y:GTArc):GTArc:=⟨z.f,z.i,z.o,z.t,r.plus z.w y.w⟩
noncomputable def tidT (r:GRing) (l:List GTArc):List GTArc:=(mrg GTArc.key (upT r) id (srt GTArc.key l)).filter fun x => !decide (x.w=r.zero)
theorem zrt {r:GRing} {n:Nat} (hn1:1<=n) {l:List GTArc} (h:∀ x∈l,x.w.sm n/\x.w.chk r) (k:Nat) (hk:k<=l.length) :
  (mrg GTArc.key (upT r) id (l.take k)).length<=k/\∀ x∈mrg GTArc.key (upT r) id (l.take k),x.w.sm ((k+1)*(n+1))/\x.w.chk r:=by
 refine zmn (up:=upT r) (nw:=id) (Q:=fun k x=>x.w.sm ((k+1)*(n+1))/\x.w.chk r) (fun k x hx=>⟨hx.1.mono (Nat.mul_le_mul_right _ (by omega)),hx.2⟩) (fun x hx=>⟨(h x hx).1.mono (by omega),(h x hx).2⟩) (fun k z x hx hz=>⟨?_,(zbs hz.2 (h x hx).2:(r.plus z.w x.w).chk r)⟩) (fun k x hx=>⟨hx.1.mono (Nat.mul_le_mul_right _ (by omega)),hx.2⟩) k hk
 have:=zp3 hz.1 (h x hx).1 hz.2 (h x hx).2 (Nat.le_trans hn1 (by rw [Nat.add_mul]; omega)) hn1
 have e:(k+1)*(n+1)+n+1=(k+1+1)*(n+1):=by rw [Nat.add_mul (k+1) 1]; omega
 rw [<- e]; exact this
theorem z33 (r:GRing) (l:List GTArc) (n:Nat) (hn:n<=90) (hn1:3<=n) (hl:l.length<=19) (h:∀ x∈l,x.w.sm n/\x.w.chk r) :
  Sp P F.kd [enc r,.sl (ens l)] (.pure (.sl (ens (tidT r l)))):=by
 have hs:=za4 (key:=GTArc.key) l
 have h':∀ x∈srt GTArc.key l,x.w.sm n/\x.w.chk r:=fun x hx=>h x ((hs.2.2 x).1 hx)
 have inv:=zrt (by omega) h'
 unfold tidT
 generalize hS:srt GTArc.key l=S at *
 have hSl:S.length=l.length:=hs.2.1
 have hone:∀ x:GTArc,(enc x).cells.all PV.one=true:=fun x=>by simp [go_sem,PV.cells]
 refine Sp.vz c.kd fun _=>?_
 simp [g.kd,go_sem]
 refine zhl (zn3 l (by omega)) (by simp [go_sem]) ⟨zda _ _ rfl,by decide,by simp [ens,LIM]; omega⟩ (by simp [go_sem]) ?_
 simp [go_sem]
 refine zpj (znq rfl hone GTArc.key F.dg l hl fun x hx y hy=>⟨_,zon x y,zmu rfl⟩) (by simp [go_sem]) rfl rfl (by simp) (by simp [go_sem]) (by simp [go_sem,hS,hSl]) rfl (zda _ _ rfl) (cells_one hone _) (by simp [go_sem]) ?_
 simp [go_sem]
 rw [hS]
 have hone':3<=n+1:=by omega
 refine zag (S:=fun k:Nat=>mkSt [(2,.ptr 2 0 0 0),(6,.own 1 0 0 (mrg GTArc.key (upT r) id (S.take k)).length),(14,.own 3 0 0 S.length),(15,.p (.int .i64 S.length)),(16,.p (.int .i64 k))] [(2,⟨2,[.p (enc r)]⟩),(1,⟨12,avs (mrg GTArc.key (upT r) id (S.take k))⟩),(3,⟨12,avs S⟩)]) (I:=fun k=>k<=S.length) (m:=fun k=>S.length - k) 0
  (Weak.nl 6 77 12 rfl (Weak.to [2,6,14,15,16] [((2,0),2),((77,0),1),((11,0),3)] (by simp [go_sem,hSl,mrg]))) (by omega) ?_
 rintro k h1 R hn' hr hx
 have e3:=i64s k (by omega)
 obtain ⟨iv1,iv2⟩:=inv k h1
 generalize hO:mrg GTArc.key (upT r) id (S.take k)=O at *
 by_cases hk:k<S.length
 rotate_left
 ·have:k=S.length:=by omega
  subst this
  rw [List.take_of_length_le (Nat.le_refl _)] at hO
  rw [hO] at hx hr
  have hb:(O.length+1)*(n+1)<=1048576:=by
   have:=Nat.mul_le_mul (show O.length+1<=20 by omega) (show n+1<=91 by omega)
   omega
  have hb2:(S.length+1)*(n+1)<=1048576:=by
   have:=Nat.mul_le_mul (show S.length+1<=20 by omega) (show n+1<=91 by omega)
   omega
  simp [g.ol,mkSt,go_sem]
  refine hx _ _ ?_
  simp [go_sem]
  refine zpi (zqw F.gi [.ref (enc r)] (fun x=>decide (x.w=r.zero)) O (by omega) fun x hx=>zx0 x r ((iv2 x hx).1.mono hb2)) (by simp [go_sem,zfl,zju]) rfl rfl (by simp) (by simp [go_sem]) (by simp [go_sem]; have:=List.length_filter_le (fun x:GTArc => !decide (x.w=r.zero)) O; omega) rfl (zda _ _ rfl) (cells_one hone _) (by simp [go_sem]) (List.length_filter_le _ _) ?_
  generalize hF:O.filter (fun x => !decide (x.w=r.zero))=F0 at *
  have hFl:F0.length<=O.length:=by rw [<- hF]; exact List.length_filter_le _ _
  have hA1:=zvs F0 (List.replicate (O.length - F0.length) (⟨0,0,0,0,gw0'⟩:GTArc))
  have hA2:F0.length<=(ens (F0++List.replicate (O.length - F0.length) (⟨0,0,0,0,gw0'⟩:GTArc))).length:=by simp [ens]
  generalize ens (F0++List.replicate (O.length - F0.length) (⟨0,0,0,0,gw0'⟩:GTArc))=A0 at *
  cases hfl:A0.all PV.flat
  ·simp [go_sem,killAll]
   rw [hA1]; simp [go_sem,hA2]
  ·simp [go_sem,killAll]
   rw [hA1]; simp [go_sem,hA2]
 have hw:=h' _ (List.getElem_mem hk)
 have hnx:=zf9 (key:=GTArc.key) (up:=upT r) (nw:=id) hk
 rw [hO] at hnx
 have cz:=zbn hw.2.1
 have sz:=ztw (n:=n) hw.2.1 hn1
 have pz:=zci hw.2
 rcases List.eq_nil_or_concat O with rfl|⟨o,z,rfl⟩
 ·simp [g.ol,mkSt,go_sem,hk]
  refine zae hk ?_
  refine zaa (zfy r) rfl ?_
  simp [go_sem]
  refine zab (zf5 r S[k].w r.zero n hw.1 sz (by omega) (by omega) hw.2 cz) ?_
  rw [pz]
  simp [go_sem,e3]
  refine hn' (k+1) _ (Weak.to [2,6,14,15,16] [((2,0),2),((59,0),1),((3,0),3)] ?_) (by omega) (by omega)
  rw [hnx]
  simp [mkSt,go_sem,mst]
 ·have e4:IntKind.i64.wrap (o.length:Int)=(o.length:Int):=i64w (by omega) (by simp at iv1; omega)
  simp [g.ol,mkSt,go_sem,hk,e4]
  refine zae hk ?_
  refine zaa (zfy r) rfl ?_
  simp [go_sem]
  refine zab (zf5 r S[k].w r.zero n hw.1 sz (by omega) (by omega) hw.2 cz) ?_
  rw [pz]
  simp [go_sem,e4]
  refine zab (zon z S[k]) ?_
  simp [go_sem,e4]
  have hz:=iv2 z (by simp)
  have hb2:(k+1)*(n+1)<=2000:=by
   have:=Nat.mul_le_mul (show k+1<=20 by omega) (show n+1<=91 by omega)
   omega
  have hb3:n<=(k+1)*(n+1):=by rw [Nat.add_mul]; omega
  have hle:lexI z.key S[k].key=0 ↔ z.key=S[k].key:=zid (by simp [GTArc.key])
  refine ⟨fun h0=>?_,fun h0=>?_⟩
  ·rw [List.concat_eq_append,zqa (key:=GTArc.key) (z:=z) (y:=S[k]) (hle.1 h0)] at hnx
   refine zab (zf5 r z.w S[k].w _ hz.1 (hw.1.mono hb3) hb2 (by omega) hz.2 hw.2) ?_
   simp [go_sem,e3,e4]
   refine hn' (k+1) _ (Weak.to [2,6,14,15,16] [((2,0),2),((1,0),1),((3,0),3)] ?_) (by omega) (by omega)
   rw [hnx]
   simp [mkSt,go_sem,upT]
  ·rw [List.concat_eq_append,zml (key:=GTArc.key) (z:=z) (y:=S[k]) (fun h=>h0 (hle.2 h))] at hnx
   simp [go_sem,e3]
   refine ⟨by simp at iv1; omega,hn' (k+1) _ (Weak.to [2,6,14,15,16] [((2,0),2),((59,0),1),((3,0),3)] ?_) (by omega) (by omega)⟩
   rw [hnx]
   simp [mkSt,go_sem,upT]
end Go.Ab
namespace Go.Ab
open Enc (enc)
def inT (x:GTArc) (t:GTrans):Prop:=0<=x.f/\x.f<t.st/\0<=x.t/\x.t<t.st/\0<=x.i/\x.i<=t.i/\0<=x.o/\x.o<=t.o/\x.w.chk t.ring
structure GTrans.ok (t:GTrans):Prop where
 ring:t.ring.ok=true
 i1:1<=t.i/\t.i<=32
 o1:1<=t.o/\t.o<=32
 st1:0<=t.st
 st2:t.st<=64
 il:(t.ini.length:Int)=t.st
 fl:(t.fin.length:Int)=t.st
 al:t.arcs.length<=2048
 arcs:∀ x∈t.arcs,inT x t
 ini:∀ w∈t.ini,w.chk t.ring
 fin:∀ w∈t.fin,w.chk t.ring
noncomputable instance (x:GTArc) (a:GTrans):Decidable (inT x a):=Classical.propDecidable _
noncomputable instance (a:GTrans):Decidable a.ok:=Classical.propDecidable _
structure GTrans.sm (a:GTrans) (n:Nat):Prop where
 ini:∀ w∈a.ini,w.sm n
 fin:∀ w∈a.fin,w.sm n
 arcs:∀ x∈a.arcs,x.w.sm n
theorem GTrans.sm.mono {a:GTrans} {m n:Nat} (h:a.sm m) (k:m<=n):a.sm n:=⟨fun w hw=>(h.ini w hw).mono k,fun w hw=>(h.fin w hw).mono k,fun x hx=>(h.arcs x hx).mono k⟩
theorem zrk (t:GTrans) (h:t.sm 1048576) (li:t.ini.length<=1000000) (lf:t.fin.length<=1000000):Sp P F.fy [enc t] (.pure (.bool (decide t.ok))):=by
 refine Sp.vz c.fy fun _=>?_
 simp [g.fy,go_sem]
 refine zaa (zfi t.ring) rfl ?_
 cases hr:t.ring.ok
 ·simp [go_sem]; intro ok; rw [ok.ring] at hr; cases hr
 simp [go_sem]
 refine zaa (zlv t.i) rfl ?_
 by_cases h1:1<=t.i/\t.i<=32
 rotate_left
 ·simp [go_sem,h1]; intro ok; exact h1 ok.i1
 simp [go_sem,h1]
 refine zaa (zlv t.o) rfl ?_
 by_cases h2:1<=t.o/\t.o<=32
 rotate_left
 ·simp [go_sem,h2]; intro ok; exact h2 ok.o1
 simp [go_sem,h2]
 refine ⟨fun h3 ok=>by have:=ok.st1; omega,fun h3=>⟨fun h4 ok=>by have:=ok.st2; omega,fun h4=>⟨fun h5 ok=>by have:=ok.al; omega,fun h5=>?_⟩⟩⟩
 refine zag (S:=fun k:Nat=>mkSt [(1,.ptr 1 0 0 0),(38,.p (.sl (ens t.arcs))),(39,.p (.int .i64 t.arcs.length)),(40,.p (.int .i64 k))] [(1,⟨8,[.p (enc t)]⟩)]) (I:=fun k=>k<=t.arcs.length/\∀ i,(hi:i<t.arcs.length)->i<k->inT t.arcs[i] t) (m:=fun k=>t.arcs.length - k) 0
  (Weak.to [1,38,39,40] [((1,0),1)] (by simp [go_sem])) ⟨by omega,fun i _ h0=>by omega⟩ ?_
 rintro k ⟨h6,h7⟩ R hn hr' hx
 have e1:=i64s k (by omega)
 simp [g.rd,mkSt,go_sem]
 refine ⟨fun hk=>?_,fun hk=>hx _ _ ?_⟩
 ·refine zae hk ?_
  have hret:¬ inT t.arcs[k] t->¬ t.ok:=fun h ok=>h (ok.arcs _ (List.getElem_mem hk))
  have hsw:t.arcs[k].w.sm 1048576:=h.arcs _ (List.getElem_mem hk)
  have hnext:inT t.arcs[k] t->∀ i,(hi:i<t.arcs.length)->i<k+1->inT t.arcs[i] t:=fun hx i hi h0=>by
   by_cases hik:i<k
   ·exact h7 i hi hik
   ·have:i=k:=by omega
    subst this; exact hx
  generalize t.arcs[k]=x at *
  refine ⟨fun h8=>hr' _ ?_,fun h8=>⟨fun h9=>hr' _ ?_,fun h9=>⟨fun h10=>hr' _ ?_,fun h10=>⟨fun h11=>hr' _ ?_,fun h11=>?_⟩⟩⟩⟩
  ·simp [go_sem]
   refine hret fun hT=>?_
   obtain ⟨a1,a2,a3,a4,a5,a6,a7,a8,a9⟩:=hT
   revert h8; (repeat' split)<;>omega
  ·simp [go_sem]
   refine hret fun hT=>?_
   obtain ⟨a1,a2,a3,a4,a5,a6,a7,a8,a9⟩:=hT
   revert h9; (repeat' split)<;>omega
  ·simp [go_sem]
   exact hret fun hT=>by have:=hT.2.2.2.2.2.1; omega
  ·simp [go_sem]
   exact hret fun hT=>by have:=hT.2.2.2.2.2.2.2.1; omega
  have h12:0<=x.f/\0<=x.t/\0<=x.i/\0<=x.o:=by revert h8; (repeat' split)<;>intro h8<;>omega
  have h13:x.f<t.st/\x.t<t.st:=by revert h9; (repeat' split)<;>intro h9<;>omega
  refine zab (zhh t.ring x.w hsw) ?_
  by_cases hc:x.w.chk t.ring
  rotate_left
  ·simp [go_sem,hc]
   refine hr' _ ?_
   simp [go_sem]
   exact hret fun hT=>hc hT.2.2.2.2.2.2.2.2
  simp [go_sem,hc,e1]
  exact hn (k+1) _ (Weak.to [1,38,39,40] [((1,0),1)] (by simp [mkSt,go_sem])) ⟨by omega,hnext ⟨h12.1,h13.1,h12.2.1,h13.2,h12.2.2.1,h10,h12.2.2.2,h11,hc⟩⟩ (by omega)
 ·simp [go_sem]
  have hall:∀ x∈t.arcs,inT x t:=fun x hx=>by
   obtain ⟨i,hi,rfl⟩:=List.mem_iff_getElem.1 hx
   exact h7 i hi (by omega)
  refine zab (zlo t.ring t.ini t.st h.ini (by omega)) ?_
  by_cases h8:(t.ini.length:Int)=t.st/\∀ w∈t.ini,w.chk t.ring
  rotate_left
  ·rw [decide_eq_false h8]; simp [go_sem]
   intro ok; exact h8 ⟨ok.il,ok.ini⟩
  rw [decide_eq_true h8]; simp [go_sem]
  refine zab (zlo t.ring t.fin t.st h.fin (by omega)) ?_
  by_cases h9:(t.fin.length:Int)=t.st/\∀ w∈t.fin,w.chk t.ring
  rotate_left
  ·have:¬ t.ok:=fun ok=>h9 ⟨ok.fl,ok.fin⟩
   rw [decide_eq_false h9,decide_eq_false this]; simp [go_sem]
  have ok:t.ok:=⟨hr,h1,h2,h3,h4,h8.1,h9.1,by omega,hall,h8.2,h9.2⟩
  rw [decide_eq_true h9,decide_eq_true ok]; simp [go_sem]
end Go.Ab
namespace Go.Ab
open Enc (enc)
def zm5:GTrans:=⟨⟨0,[]⟩,0,0,0,[],[],[]⟩
noncomputable def GTrans.nf (a:GTrans):GTrans:=⟨a.ring,a.i,a.o,a.st,a.ini,a.fin,tidT a.ring a.arcs⟩
theorem zye (a:GTrans) (n:Nat) (hn:n<=90) (hn1:3<=n) (h:a.sm n) (hl:a.arcs.length<=19) (li:a.ini.length<=1000000) (lf:a.fin.length<=1000000) :
  Sp P F.fi [enc a] (.pure (.tup [enc (if a.ok then a.nf else zm5),.int .i64 (if a.ok then 0 else 4)])):=by
 refine Sp.vz c.fi fun _=>?_
 simp [g.fi,go_sem]
 refine zab (zrk a (h.mono (by omega)) li lf) ?_
 by_cases ok:a.ok
 rotate_left
 ·rw [decide_eq_false ok,if_neg ok,if_neg ok]; simp [go_sem,zm5]
 rw [decide_eq_true ok,if_pos ok,if_pos ok]
 have i1:=ok.il; have i2:=ok.fl; have i3:=ok.st2
 simp [go_sem]
 refine zab (zph a.ring.parts (by have:=z1h ok.ring; omega)) ?_
 simp [go_sem]
 refine zab (zll a.ring a.ini n hn hn1 ok.ring (by omega) h.ini ok.ini) ?_
 simp [go_sem]
 refine zab (zll a.ring a.fin n hn hn1 ok.ring (by omega) h.fin ok.fin) ?_
 simp [go_sem]
 refine zab (z33 a.ring a.arcs n hn hn1 hl fun x hx=>⟨h.arcs x hx,(ok.arcs x hx).2.2.2.2.2.2.2.2⟩) ?_
 simp [go_sem,GTrans.nf]
end Go.Ab
namespace Go.Ab
open Enc (enc)
def labA (f:GTArc->Int) (x:GTArc):GArc:=⟨x.f,f x,x.t,x.w⟩
theorem zmx (t:GTrans) (sy:Int) (fid:FuncId) (f:GTArc->Int) (hf:∀ x,Sp P fid [enc x] (.pure (.int .i64 (f x)))) (n:Nat) (hn:n<=90) (hn1:3<=n) (h:t.sm n) (hl:t.arcs.length<=19) (li:t.ini.length<=1000000) (lf:t.fin.length<=1000000) {A:GAuto} (hA:A=⟨t.ring,sy,t.st,t.ini,t.fin,t.arcs.map (labA f)⟩) {v:GAuto} {e:Int} (h0:¬ t.ok->v=zkv/\e=4) (h1:t.ok->v=(if A.vb then A.nf else zkv)/\e=if A.vb then 0 else 4) :
  Sp P F.fj [enc t,.int .i64 sy,.fn fid []] (.pure (.tup [enc v,.int .i64 e])):=by
 refine Sp.vz c.fj fun _=>?_
 simp [g.fj,go_sem]
 refine zab (zrk t (h.mono (by omega)) li lf) ?_
 by_cases ok:t.ok
 rotate_left
 ·obtain ⟨rfl,rfl⟩:=h0 ok
  rw [decide_eq_false ok]; simp [go_sem,zkv]
 rw [decide_eq_true ok]
 obtain ⟨rfl,rfl⟩:=h1 ok
 have smA:A.sm n:=by
  subst hA
  refine ⟨h.ini,h.fin,fun x hx=>?_⟩
  obtain ⟨y,hy,rfl⟩:=List.mem_map.1 hx
  exact h.arcs y hy
 have hnA:=zyf A n hn hn1 smA (by subst hA; simpa using hl)
 generalize (if A.vb=true then A.nf else zkv)=v0 at *
 generalize (if A.vb=true then (0:Int) else 4)=e0 at *
 simp [go_sem]
 refine zag (S:=fun k:Nat=>mkSt [(2,.p (.fn fid [])),(6,.ptr 1 0 0 0),(8,.ptr 2 0 0 0),(26,.p (.sl (ens t.arcs))),(27,.p (.int .i64 t.arcs.length)),(28,.p (.int .i64 k))]
   [(1,⟨7,[.agg [.p (.int .i64 0),.nil,.p (.int .i64 0),.p (.int .i64 0),.nil,.nil,.nil]]⟩),(2,⟨7,[.agg [.p (.int .i64 t.ring.kind),.p (.sl (ens t.ring.parts)),.p (.int .i64 sy),.p (.int .i64 t.st),.p (.sl (ens t.ini)),.p (.sl (ens t.fin)),.own 3 0 0 k]]⟩),(3,⟨11,avs ((t.arcs.map (labA f)).take k)⟩)])
  (I:=fun k=>k<=t.arcs.length) (m:=fun k=>t.arcs.length - k) 0
  ((Weak.nilCell (s0:=8) (g0:=0) (i:=6) (s:=77) (sz:=11) rfl).trans (Weak.to [2,6,8,26,27,28] [((6,0),1),((8,0),2),((77,0),3)] (by simp [go_sem]))) (by omega) ?_
 rintro k h6 R hn' hr hx
 have e1:=i64s k (by omega)
 simp [g.qq,mkSt,go_sem]
 refine ⟨fun hk=>?_,fun hk=>hx _ _ ?_⟩
 ·refine zae hk ?_
  refine zab (hf t.arcs[k]) ?_
  have hts:avs ((t.arcs.map (labA f)).take (k+1))=avs ((t.arcs.map (labA f)).take k)++[.p (enc (labA f t.arcs[k]))]:=by
   rw [List.take_succ_eq_append_getElem (by simpa using hk),zbp]; simp [go_sem]
  simp [go_sem,e1]
  exact ⟨by omega,hn' (k+1) _ (Weak.to [2,6,8,26,27,28] [((1,0),1),((2,0),2),((45,0),3)] (by simp [mkSt,go_sem,hts,labA])) (by omega) (by omega)⟩
 ·have:k=t.arcs.length:=by omega
  subst this
  have hts:(t.arcs.map (labA f)).take t.arcs.length=t.arcs.map (labA f):=List.take_of_length_le (by simp)
  subst hA
  simp [go_sem]
  refine zaa hnA (by simp [go_sem,hts]) ?_
  simp [go_sem]
theorem z9m (x:GTArc):Sp P F.fk [enc x] (.pure (.int .i64 x.i)):=by
 refine Sp.vz c.fk fun _=>?_
 simp [g.fk,go_sem]
theorem z5e (x:GTArc):Sp P F.fm [enc x] (.pure (.int .i64 x.o)):=by
 refine Sp.vz c.fm fun _=>?_
 simp [g.fm,go_sem]
noncomputable def zix (t:GTrans) (A:GAuto):GAuto:=if t.ok then (if A.vb then A.nf else zkv) else zkv
noncomputable def ziy (t:GTrans) (A:GAuto):Int:=if t.ok then (if A.vb then 0 else 4) else 4
def GTrans.inA (t:GTrans):GAuto:=⟨t.ring,t.i,t.st,t.ini,t.fin,t.arcs.map (labA GTArc.i)⟩
def GTrans.outA (t:GTrans):GAuto:=⟨t.ring,t.o,t.st,t.ini,t.fin,t.arcs.map (labA GTArc.o)⟩
theorem zsy (t:GTrans) (n:Nat) (hn:n<=90) (hn1:3<=n) (h:t.sm n) (hl:t.arcs.length<=19) (li:t.ini.length<=1000000) (lf:t.fin.length<=1000000) :
  Sp P F.fe [enc t] (.pure (.tup [enc (zix t t.inA),.int .i64 (ziy t t.inA)])):=by
 refine Sp.vz c.fe fun _=>?_
 simp [g.fe,go_sem]
 refine zab (zmx t t.i F.fk GTArc.i z9m n hn hn1 h hl li lf (A:=t.inA) (v:=zix t t.inA) (e:=ziy t t.inA) rfl (fun h=>by simp [zix,ziy,h]) (fun h=>by simp [zix,ziy,h])) ?_
 simp [go_sem]
theorem zya (t:GTrans) (n:Nat) (hn:n<=90) (hn1:3<=n) (h:t.sm n) (hl:t.arcs.length<=19) (li:t.ini.length<=1000000) (lf:t.fin.length<=1000000) :
  Sp P F.jm [enc t] (.pure (.tup [enc (zix t t.outA),.int .i64 (ziy t t.outA)])):=by
 refine Sp.vz c.jm fun _=>?_
 simp [g.jm,go_sem]
 refine zab (zmx t t.o F.fm GTArc.o z5e n hn hn1 h hl li lf (A:=t.outA) (v:=zix t t.outA) (e:=ziy t t.outA) rfl (fun h=>by simp [zix,ziy,h]) (fun h=>by simp [zix,ziy,h])) ?_
 simp [go_sem]
end Go.Ab
namespace Go.Ab
open Enc (enc)
def swT (x:GTArc):GTArc:=⟨x.f,x.o,x.i,x.t,x.w⟩
def GTrans.inv (t:GTrans):GTrans:=⟨t.ring,t.o,t.i,t.st,t.ini,t.fin,t.arcs.map swT⟩
noncomputable def trV (t:GTrans):GTrans:=if t.ok then t.nf else zm5
noncomputable def trE (t:GTrans):Int:=if t.ok then 0 else 4
def idT (x:GArc):GTArc:=⟨x.f,x.l,x.l,x.t,x.w⟩
def GAuto.idt (a:GAuto):GTrans:=⟨a.ring,a.sy,a.sy,a.st,a.ini,a.fin,a.arcs.map idT⟩
theorem zsz (a:GAuto) (n:Nat) (hn:n<=90) (hn1:3<=n) (h:a.sm n) (hl:a.arcs.length<=19) (li:a.ini.length<=1000000) (lf:a.fin.length<=1000000) :
  Sp P F.jr [enc a] (.pure (.tup [enc (if a.vb then trV a.idt else zm5),.int .i64 (if a.vb then trE a.idt else 4)])):=by
 have smA:a.idt.sm n:=by
  refine ⟨h.ini,h.fin,fun x hx=>?_⟩
  obtain ⟨y,hy,rfl⟩:=List.mem_map.1 hx
  exact h.arcs y hy
 have hnA:=zye a.idt n hn hn1 smA (by simpa [GAuto.idt] using hl) li lf
 change Sp P F.fi [enc a.idt] (.pure (.tup [enc (trV a.idt),.int .i64 (trE a.idt)])) at hnA
 generalize trV a.idt=v0 at *
 generalize trE a.idt=e0 at *
 refine Sp.vz c.jr fun _=>?_
 simp [g.jr,go_sem]
 refine zab (zrl a (h.mono (by omega))) ?_
 cases hv:a.vb
 ·simp [go_sem,zm5]
 simp [go_sem]
 refine zag (S:=fun k:Nat=>mkSt [(2,.ptr 1 0 0 0),(4,.ptr 2 0 0 0),(25,.p (.sl (ens a.arcs))),(26,.p (.int .i64 a.arcs.length)),(27,.p (.int .i64 k))]
   [(1,⟨8,[.agg [.p (.int .i64 0),.nil,.p (.int .i64 0),.p (.int .i64 0),.p (.int .i64 0),.nil,.nil,.nil]]⟩),(2,⟨8,[.agg [.p (.int .i64 a.ring.kind),.p (.sl (ens a.ring.parts)),.p (.int .i64 a.sy),.p (.int .i64 a.sy),.p (.int .i64 a.st),.p (.sl (ens a.ini)),.p (.sl (ens a.fin)),.own 3 0 0 k]]⟩),(3,⟨12,avs ((a.arcs.map idT).take k)⟩)])
  (I:=fun k=>k<=a.arcs.length) (m:=fun k=>a.arcs.length - k) 0
  ((Weak.nilCell (s0:=4) (g0:=0) (i:=7) (s:=77) (sz:=12) rfl).trans (Weak.to [2,4,25,26,27] [((2,0),1),((4,0),2),((77,0),3)] (by simp [go_sem]))) (by omega) ?_
 rintro k h6 R hn' hr hx
 have e1:=i64s k (by omega)
 simp [g.qo,mkSt,go_sem]
 refine ⟨fun hk=>?_,fun hk=>hx _ _ ?_⟩
 ·refine zae hk ?_
  have hts:avs ((a.arcs.map idT).take (k+1))=avs ((a.arcs.map idT).take k)++[.p (enc (idT a.arcs[k]))]:=by
   rw [List.take_succ_eq_append_getElem (by simpa using hk),zbp]; simp [go_sem]
  simp [go_sem,e1]
  exact ⟨by omega,hn' (k+1) _ (Weak.to [2,4,25,26,27] [((1,0),1),((2,0),2),((45,0),3)] (by simp [mkSt,go_sem,hts,idT])) (by omega) (by omega)⟩
 ·have:k=a.arcs.length:=by omega
  subst this
  have hts:(a.arcs.map idT).take a.arcs.length=a.arcs.map idT:=List.take_of_length_le (by simp)
  simp [go_sem]
  refine zaa hnA (by simp [go_sem,hts,GAuto.idt]) ?_
  simp [go_sem]
end Go.Ab
namespace Go.Ab
section
variable {α : Type} {key : α -> List Int} {wt : α -> GW} {r:GRing} {up : α -> α -> α} (hr:r.ok=true) (hk:∀ z y,key (up z y)=key z) (hw:∀ z y,wt (up z y)=r.plus (wt z) (wt y))
def atK (key : α -> List Int) (wt : α -> GW) (r:GRing) (l:List α) (k:List Int):GW:=atQ key wt r l fun x=>decide (x=k)
theorem zva {L:List α} {k:List Int} (h:∀ x∈L,key x≠k):atK key wt r L k=r.zero:=by
 unfold atK atQ
 rw [List.filter_eq_nil_iff.2 fun x hx=>by simpa using h x hx]; rfl
theorem zvb {L:List α} (s:SSrt key L) (c:∀ x∈L,(wt x).chk r) {x : α} (hx:x∈L):atK key wt r L (key x)=wt x:=by
 induction L with
 | nil=>cases hx
 | cons z t ih =>
  have s':=List.pairwise_cons.1 s
  unfold atK
  rw [zcf]
  simp only [decide_eq_true_eq]
  rcases List.mem_cons.1 hx with rfl|hx'
  ·rw [if_pos rfl,show atQ key wt r t (fun a=>decide (a=key x))=r.zero from zva (wt:=wt) (r:=r) fun y hy h=>by have:=s'.1 y hy; rw [h] at this; exact List.lt_irrefl _ this]
   exact zci (c x (by simp))
  ·have hne:¬ key z=key x:=fun h=>by have:=s'.1 x hx'; rw [h] at this; exact List.lt_irrefl _ this
   rw [if_neg hne]
   exact ih s'.2 (fun y hy=>c y (by simp [hy])) hx'
theorem zz0:∀ {L L':List α},SSrt key L->SSrt key L'->(∀ x,x∈L ↔ x∈L')->L=L'
 | [],[],_,_,_=>rfl
 | [],y::t,_,_,h=>by have:=(h y).2 (by simp); cases this
 | x::t,[],_,_,h=>by have:=(h x).1 (by simp); cases this
 | x::t,y::t',s,s',h=>by
  have p:=List.pairwise_cons.1 s
  have p':=List.pairwise_cons.1 s'
  have exy:x=y:=by
   rcases List.mem_cons.1 ((h x).1 (by simp)) with e|hx
   ·exact e
   ·rcases List.mem_cons.1 ((h y).2 (by simp)) with e|hy
    ·exact e.symm
    ·exact absurd (p'.1 x hx) (List.lt_asymm (p.1 y hy))
  subst exy
  congr 1
  refine zz0 p.2 p'.2 fun z=>⟨fun hz=>?_,fun hz=>?_⟩
  ·rcases List.mem_cons.1 ((h z).1 (by simp [hz])) with e|h1
   ·have:=p.1 z hz; rw [e] at this; exact absurd this (List.lt_irrefl _)
   ·exact h1
  ·rcases List.mem_cons.1 ((h z).2 (by simp [hz])) with e|h1
   ·have:=p'.1 z hz; rw [e] at this; exact absurd this (List.lt_irrefl _)
   ·exact h1
theorem z6a (ext:∀ x y,key x=key y->wt x=wt y->x=y) {L L':List α} (s:SSrt key L) (s':SSrt key L') (c:∀ x∈L,(wt x).chk r) (c':∀ x∈L',(wt x).chk r) (n:∀ x∈L,wt x≠r.zero) (n':∀ x∈L',wt x≠r.zero) (h:∀ k,atK key wt r L k=atK key wt r L' k):L=L':=by
 have one:∀ {L L':List α},SSrt key L->SSrt key L'->(∀ x∈L,(wt x).chk r)->(∀ x∈L',(wt x).chk r)->(∀ x∈L,wt x≠r.zero)->(∀ k,atK key wt r L k=atK key wt r L' k)->∀ x∈L,x∈L':=by
  intro L L' s s' c c' n h x hx
  have h1:=h (key x)
  rw [zvb s c hx] at h1
  by_cases he:∃ y∈L',key y=key x
  ·obtain ⟨y,hy,e⟩:=he
   have h2:=zvb s' c' hy
   rw [e,<- h1] at h2
   rw [ext x y e.symm h2]; exact hy
  ·rw [zva (wt:=wt) (r:=r) fun y hy e=>he ⟨y,hy,e⟩] at h1
   exact absurd h1 (n x hx)
 exact zz0 s s' fun x=>⟨one s s' c c' n h x,one s' s c' c n' (fun k=>(h k).symm) x⟩
include hr in
theorem zy6 {l:List α} (h:∀ x∈l,(wt x).chk r) (p:List Int->Bool):atQ key wt r (l.filter fun x => !decide (wt x=r.zero)) p=atQ key wt r l p:=by
 induction l with
 | nil=>rfl
 | cons x l ih =>
  have ih':=ih fun y hy=>h y (by simp [hy])
  by_cases hz:wt x=r.zero
  ·rw [List.filter_cons_of_neg (by simp [hz]),ih',zcf]
   split
   ·rw [hz,zlm hr (zu9 hr (fun y hy=>h y (by simp [hy])) p)]
   ·rfl
  ·rw [List.filter_cons_of_pos (by simp [hz]),zcf,zcf,ih']
noncomputable def tid (key : α -> List Int) (wt : α -> GW) (r:GRing) (up : α -> α -> α) (l:List α):List α := (mrg key up id (srt key l)).filter fun x => !decide (wt x=r.zero)
include hr hk hw in
theorem zla {l:List α} (h:∀ x∈l,(wt x).chk r):SSrt key (tid key wt r up l)/\(∀ x∈tid key wt r up l,(wt x).chk r/\wt x≠r.zero)/\∀ p,atQ key wt r (tid key wt r up l) p=atQ key wt r l p:=by
 have hm:=(zqd (key:=key) (up:=up) (nw:=id) hk (fun _=>rfl) l)
 have hs:=(zhr (key:=key) (up:=up) (nw:=id) hk (fun _=>rfl) _ (srt key l) rfl hm.2).1
 have hn:=fun p=>z3j (key:=key) (up:=up) hr hk hw h p l.length (Nat.le_refl _)
 rw [List.take_length] at hn
 have e:mrg key up id (srt key l)=nfm key up id l:=hm.1
 unfold tid
 refine ⟨List.Pairwise.filter _ hs,fun x hx=>?_,fun p=>?_⟩
 ·have:=List.mem_filter.1 hx
  rw [e] at this
  exact ⟨(hn fun _=>true).1 x this.1,by simpa using this.2⟩
 ·rw [e,zy6 hr (hn p).1,(hn p).2]
include hr hk hw in
theorem zt2 (ext:∀ x y,key x=key y->wt x=wt y->x=y) {l l':List α} (h:∀ x∈l,(wt x).chk r) (h':∀ x∈l',(wt x).chk r) (he:∀ p,atQ key wt r l p=atQ key wt r l' p):tid key wt r up l=tid key wt r up l':=by
 obtain ⟨a1,a2,a3⟩:=zla (up:=up) hr hk hw h
 obtain ⟨b1,b2,b3⟩:=zla (up:=up) hr hk hw h'
 exact z6a ext a1 b1 (fun x hx=>(a2 x hx).1) (fun x hx=>(b2 x hx).1) (fun x hx=>(a2 x hx).2) (fun x hx=>(b2 x hx).2) fun k=>by unfold atK; rw [a3,b3,he]
end
theorem zrd {α β : Type} {key : α -> List Int} {wt : α -> GW} {keyb : β -> List Int} {wtb : β -> GW} {r:GRing} (f : α -> β) (g:List Int->List Int) (hkey:∀ x,keyb (f x)=g (key x)) (hwt:∀ x,wtb (f x)=wt x) (l:List α) (p:List Int->Bool):atQ keyb wtb r (l.map f) p=atQ key wt r l fun k=>p (g k):=by
 induction l with
 | nil=>rfl
 | cons x l ih=>rw [List.map_cons,zcf,zcf,ih,hkey,hwt]
theorem zzs (r:GRing) (l:List GTArc):tidT r l=tid GTArc.key GTArc.w r (upT r) l:=rfl
end Go.Ab
