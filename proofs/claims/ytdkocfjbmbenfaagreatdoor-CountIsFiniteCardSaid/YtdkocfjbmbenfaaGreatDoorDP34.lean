/-
Proofs for the law CountIsFinite, part 34. Conditions: none.
-/
import Derived.Test.YtdkocfjbmbenfaaGreatDoorDP22
import Derived.Test.YtdkocfjbmbenfaaGreatDoorDP12
import Derived.Test.YtdkocfjbmbenfaaGreatDoorDP33
import Derived.Test.YtdkocfjbmbenfaaGreatDoorDP26
import Derived.Test.YtdkocfjbmbenfaaGreatDoorDP24
import Derived.Test.YtdkocfjbmbenfaaGreatDoorDP29
set_option maxRecDepth 100000
set_option maxHeartbeats 4000000
set_option linter.all false
namespace Go.Ab
open Enc (enc)
attribute [local go_sem] zal Opd.slots
section
variable {α : Type} [Enc α]
theorem zoc (hsz:Enc.sz α = 11) (hone:∀ x : α,(enc x).cells.all PV.one=true) (key : α -> List Int) (cf:FuncId) (l:List α) (hl:l.length<=1000000)
  (hc:∀ x∈l,∀ y∈l,∃ n:Int,Sp P cf [enc x,enc y] (.pure (.int .i64 n))/\(n<0 ↔ key x<key y)) :
  SpM P F.fv [.sl (ens l),.int .i64 0,.int .i64 l.length,.fn cf []] 0 11 (ens (srt key l)) (.pure (.tup [])):=by
 have hs1:∀ x : α,(enc x).sz=11:=fun x=>by rw [Enc.ok,hsz]
 have ew1:IntKind.i64.wrap 1=1:=i64w (by omega) (by omega)
 refine SpM.of_vm c.fv (by simp) rfl (by simp [go_sem,(zc7 l).2.1]) ?_
 simp [g.fv,go_sem]
 refine zai (S:=fun i:Nat=>mkSt [(0,.own PIN 0 0 l.length),(1,.p (.int .i64 0)),(2,.p (.int .i64 l.length)),(3,.p (.fn cf [])),(8,.p (.int .i64 i))] [(PIN,⟨11,avs (zfw key l i)⟩)]) (I:=fun i=>1<=i) (m:=fun i=>l.length+1 - i) 1
  (Weak.to [0,1,2,3,8] [((PIN,0),PIN)] (by simp [go_sem,zuh,ew1])) (by omega) ?_
 rintro i h1 R hn hr hx
 simp [g.pf,mkSt,go_sem]
 refine ⟨fun hi=>?_,fun hi=>hx _ _ ?_⟩
 rotate_left
 ·simp [go_sem,zwo hi]
 have e1:=i64s i (by omega)
 have hsi:=zc7 (key:=key) (l.take i)
 have hsl:(srt key (l.take i)).length=i:=by rw [hsi.2.1]; simp; omega
 have hend:∀ (L:List α) (v:AV),L=zfw key l (i+1)->v=.p (.int .i64 ((i+1:Nat):Int))->R .normal ⟨[(0,.own 999998 0 0 l.length),(1,.p (.int .i64 0)),(2,.p (.int .i64 l.length)),(3,.p (.fn cf [])),(8,v)],[(999998,[some ⟨11,avs L⟩]),(999999,[none])]⟩:=by
  rintro L v rfl rfl
  exact hn (i+1) _ (Weak.to [0,1,2,3,8] [((PIN,0),PIN)] (by simp [go_sem])) (by omega) (by omega)
 refine zai (S:=fun x:List α × Nat=>mkSt [(0,.own PIN 0 0 l.length),(1,.p (.int .i64 0)),(2,.p (.int .i64 l.length)),(3,.p (.fn cf [])),(8,.p (.int .i64 i)),(9,.p (.int .i64 x.2))] [(PIN,⟨11,avs x.1⟩)])
  (I:=fun x=>∃ A B,x.1=A++l[i]::(B++l.drop (i+1))/\x.2=A.length/\A++B=srt key (l.take i)/\∀ b∈B,key l[i]<key b) (m:=fun x=>x.2) (zfw key l i,i)
  (Weak.to [0,1,2,3,8,9] [((PIN,0),PIN)] (by simp [go_sem])) ⟨srt key (l.take i),[],by rw [zwn hi]; simp,hsl.symm,by simp,by simp⟩ ?_
 rintro ⟨L,j⟩ ⟨A,B,hL,hj,hAB,hB⟩ R2 hn2 hr2 hx2
 simp only at hL hj
 have hLl:L.length=l.length:=by
  have:=congrArg List.length hAB
  rw [hL]; simp at this ⊢; rw [hsi.2.1] at this; simp at this; omega
 have hLm:∀ y∈L,y∈l:=by
  intro y hy
  rw [hL] at hy
  simp only [List.mem_append,List.mem_cons] at hy
  have hm:∀ y,y∈A++B->y∈l:=fun y hy=>by rw [hAB,hsi.2.2] at hy; exact List.mem_of_mem_take hy
  rcases hy with h|h|h|h
  ·exact hm y (by simp [h])
  ·rw [h]; exact List.getElem_mem hi
  ·exact hm y (by simp [h])
  ·exact List.mem_of_mem_drop h
 have hjl:j<l.length:=by rw [<- hLl,hL,hj]; simp
 rcases List.eq_nil_or_concat A with rfl|⟨A',z,rfl⟩
 ·
  simp at hj
  subst hj
  simp [g.mz,mkSt,go_sem]
  refine hx2 _ _ ?_
  simp [go_sem,e1]
  refine hend L _ ?_ rfl
  rw [zkb hi,<- hAB,zri hB (by simp),hL]; simp
 ·simp only [List.concat_eq_append] at hj hL hAB
  simp at hj
  subst hj
  have hx0:L[A'.length+1]?=some l[i]:=by rw [hL]; simp
  have hz0:L[A'.length]?=some z:=by rw [hL]; simp
  have hzl:z∈l:=hLm z (by rw [hL]; simp)
  obtain ⟨n,hn3,hn4⟩:=hc l[i] (List.getElem_mem hi) z hzl
  have hl0:A'.length+1<l.length:=hjl
  have e3:IntKind.i64.wrap (A'.length:Int)=(A'.length:Nat):=i64w (by omega) (by omega)
  have e4:((A'.length:Int)+1).toNat=A'.length+1:=by omega
  have hgt:(0:Int)<(A'.length:Int)+1:=by omega
  simp [g.mz,mkSt,go_sem,e3,hLl,hl0,show A'.length<l.length by omega,e4,hgt]
  refine ⟨by omega,zjg hx0 ?_⟩
  refine zjg hz0 ?_
  refine zaa hn3 rfl ?_
  by_cases hlt:n<0
  ·simp [go_sem,hlt,e3,e4,hgt,hLl,hl0,show A'.length<l.length by omega]
   refine zjg hz0 ?_
   refine ⟨by omega,zjg hx0 ?_⟩
   refine ⟨by omega,zjg hx0 ?_⟩
   refine ⟨hs1 z,?_⟩
   rw [zgw]
   refine zjg (x:=.p (enc z)) (by simp [z5x,hz0]) ?_
   simp only [z6w]
   refine ⟨hs1 _,?_⟩
   simp [go_sem,e3]
   refine hn2 ((L.set (A'.length+1) z).set A'.length l[i],A'.length) _ (Weak.to [0,1,2,3,8,9] [((PIN,0),PIN)] (by simp [go_sem])) ⟨A',z::B,?_,rfl,?_,?_⟩ (by simp)
   ·rw [hL]; exact zwc A' B z l[i] _
   ·rw [<- hAB]; simp
   ·intro b hb
    rcases List.mem_cons.1 hb with rfl|hb
    ·exact hn4.1 hlt
    ·exact hB b hb
  ·simp [go_sem,hlt,e3,e4,hgt,hLl,hl0]
   refine hx2 _ _ ?_
   simp [go_sem,e1]
   refine hend L _ ?_ rfl
   have hnk:¬ key l[i]<key z:=fun h=>hlt (hn4.2 h)
   rw [zkb hi,<- hAB,zri hB,hL]
   ·simp
   ·intro a ha
    simp only [List.mem_append,List.mem_singleton] at ha
    rcases ha with ha|rfl
    ·intro hk
     have hs0:=hsi.1
     rw [<- hAB] at hs0
     have:=(List.pairwise_append.1 (List.pairwise_append.1 hs0).1).2.2 a ha z (by simp)
     exact hnk (zk4 hk this)
    ·exact hnk
end
end Go.Ab
namespace Go.Ab
open Enc (enc)
attribute [local go_sem] zal Opd.slots
section
variable {α : Type} [Enc α]
theorem zlt (hsz:Enc.sz α = 11) (hone:∀ x : α,(enc x).cells.all PV.one=true) (key : α -> List Int) (cf:FuncId) (l:List α) (hl:l.length<=19)
  (hc:∀ x∈l,∀ y∈l,∃ n:Int,Sp P cf [enc x,enc y] (.pure (.int .i64 n))/\(n<0 ↔ key x<key y)) :
  SpM P F.jn [.sl (ens l),.int .i64 l.length,.fn cf []] 0 11 (ens (srt key l)) (.pure (.tup [])):=by
 refine SpM.of_vm c.jn (by simp) rfl (by simp [go_sem,(zc7 l).2.1]) ?_
 simp [g.jn,go_sem]
 refine zgz fun R hn hr hx=>?_
 simp [g.o8,go_sem,show ¬ (20<=(l.length:Int)) by omega]
 refine hx _ _ ?_
 simp [go_sem]
 refine ze8 (zoc hsz hone key cf l (by omega) hc) (by simp [go_sem]) rfl rfl (by simp) (by simp [go_sem]) (by simp [go_sem,(zc7 l).2.1]) rfl (zgk _ _ hsz) (cells_one hone _) (by simp [go_sem]) ?_
 simp [go_sem]
 refine zgz fun R2 hn2 hr2 hx2=>?_
 simp [g.o9,go_sem,show ¬ (20<(l.length:Int)) by omega]
 refine hx2 _ _ ?_
 simp [go_sem]
theorem zni (hsz:Enc.sz α = 11) (hone:∀ x : α,(enc x).cells.all PV.one=true) (key : α -> List Int) (cf:FuncId) (l:List α) (hl:l.length<=19)
  (hc:∀ x∈l,∀ y∈l,∃ n:Int,Sp P cf [enc x,enc y] (.pure (.int .i64 n))/\(n<0 ↔ key x<key y)) :
  SpM P F.jd [.sl (ens l),.fn cf []] 0 11 (ens (srt key l)) (.pure (.tup [])):=by
 refine SpM.of_vm c.jd (by simp) rfl (by simp [go_sem,(zc7 l).2.1]) ?_
 simp [g.jd,go_sem]
 refine ze8 (zlt hsz hone key cf l hl hc) (by simp [go_sem]) rfl rfl (by simp) (by simp [go_sem]) (by simp [go_sem,(zc7 l).2.1]) rfl (zgk _ _ hsz) (cells_one hone _) (by simp [go_sem]) ?_
 simp [go_sem]
end
end Go.Ab
namespace Go.Ab
open Enc (enc)
attribute [local go_sem] zal Opd.slots
def gw0':GW:=.mk ⟨false,[],[]⟩ 0 false 0 [] []
theorem zqd (df:FuncId) (caps:List PV) (p:GArc->Bool) (l:List GArc) (hl:l.length<=1000000) (hp:∀ x∈l,Sp P df (enc x::caps) (.pure (.bool (p x)))) :
  SpM P F.je [.sl (ens l),.fn df caps] 0 11 (ens (l.filter (fun x => !p x)++List.replicate (l.length - (l.filter fun x => !p x).length) (⟨0,0,0,gw0'⟩:GArc))) (.same (l.filter fun x => !p x).length):=by
 have hfl:(l.filter fun x => !p x).length<=l.length:=List.length_filter_le _ _
 refine SpM.of_vm c.je (by simp) rfl (by simp [go_sem]; omega) ?_
 simp [g.je,go_sem]
 refine zaf (zi8 l df caps p (by omega) hp) ?_
 cases hi:l.findIdx? p with
 | none =>
  have hn:=List.findIdx?_eq_none_iff.1 hi
  have hf:l.filter (fun x => !p x)=l:=List.filter_eq_self.2 fun x hx=>by simp [hn x hx]
  have hx:idxI p l = -1:=by simp [idxI,hi]
  simp [hx,hf,go_sem]
 | some k =>
  obtain ⟨hk,hpk,hbef⟩:=List.findIdx?_eq_some_iff_getElem.1 hi
  have hx:idxI p l=k:=by simp [idxI,hi]
  have hne:¬ ((k:Int) = -1):=by omega
  have e1:=i64s k (by omega)
  simp [hx,hne,e1,go_sem]
  have htk:(l.take k).filter (fun x => !p x)=l.take k:=List.filter_eq_self.2 fun x hx=>by
   rw [List.mem_take_iff_getElem] at hx
   obtain ⟨i,hi,rfl⟩:=hx
   have:=hbef i (by omega)
   simpa using this
  have htk1:(l.take (k+1)).filter (fun x => !p x)=l.take k:=by
   rw [List.take_succ_eq_append_getElem hk,List.filter_append,htk]; simp [hpk]
  refine zai (S:=fun x:List GArc × Nat × Nat=>mkSt [(0,.own PIN 0 0 l.length),(1,.p (.fn df caps)),(5,.p (.int .i64 x.2.1)),(6,.p (.int .i64 x.2.2))] [(PIN,⟨11,avs x.1⟩)])
   (I:=fun x=>x.1.length=l.length/\x.2.1<x.2.2/\x.2.2<=l.length/\x.1.take x.2.1=(l.take x.2.2).filter (fun x => !p x)/\x.1.drop x.2.2=l.drop x.2.2/\x.2.1<=l.length) (m:=fun x=>l.length - x.2.2) (l,k,k+1)
   (Weak.to [0,1,5,6] [((PIN,0),PIN)] (by simp [go_sem])) ⟨rfl,by simp,by simp; omega,by rw [htk1],rfl,by simp; omega⟩ ?_
  rintro ⟨L,i,j⟩ ⟨h1,h2,h3,h4,h5,h6⟩ R hn hr hx2
  simp only at h1 h2 h3 h4 h5 h6
  simp [g.ox,mkSt,go_sem]
  refine ⟨fun hj=>?_,fun hj=>hx2 _ _ ?_⟩
  ·have e2:=i64s j (by omega)
   have e3:=i64s i (by omega)
   have hjL:L[j]?=some l[j]:=by
    have:(L.drop j)[0]?=(l.drop j)[0]?:=by rw [h5]
    simpa [hj] using this
   refine ⟨by omega,zjg hjL ?_⟩
   try simp [go_sem]
   refine zaa (hp l[j] (List.getElem_mem hj)) (zbz (by simp [go_sem]) (zfg _ _)) ?_
   have htj:(l.take (j+1)).filter (fun x => !p x)=(l.take j).filter (fun x => !p x)++(if p l[j] then [] else [l[j]]):=by
    rw [List.take_succ_eq_append_getElem hj,List.filter_append]
    by_cases h:p l[j]<;>simp [h]
   rcases Bool.eq_false_or_eq_true (p l[j]) with h7|h7
   ·simp [h7,e2,go_sem]
    refine hn (L,i,j+1) _ (Weak.to [0,1,5,6] [((PIN,0),PIN)] (by simp [go_sem])) ⟨h1,by show i<j+1; omega,by show j+1<=l.length; omega,by show L.take i=_; rw [htj,h4]; simp [h7],?_,h6⟩ (by show l.length - (j+1)<l.length - j; omega)
    show L.drop (j+1)=l.drop (j+1)
    rw [<- List.drop_drop,h5,List.drop_drop]
   ·simp [h7,go_sem]
    refine ⟨by omega,?_⟩
    refine zjg (l:=L) (n:=i) (x:=L[i]'(by omega)) (by simp) ?_
    simp [e2,e3,go_sem]
    have htki:(L.set i l[j]).take (i+1)=L.take i++[l[j]]:=by
     rw [List.take_succ_eq_append_getElem (by simp; omega),List.take_set_of_le (Nat.le_refl i)]
     simp
    refine hn (L.set i l[j],i+1,j+1) _ (Weak.to [0,1,5,6] [((PIN,0),PIN)] (by simp [go_sem])) ⟨by simp [h1],by show i+1<j+1; omega,by show j+1<=l.length; omega,by show (L.set i l[j]).take (i+1)=_; rw [htki,htj,h4]; simp [h7],?_,by show i+1<=l.length; omega⟩ (by show l.length - (j+1)<l.length - j; omega)
    show (L.set i l[j]).drop (j+1)=l.drop (j+1)
    rw [List.drop_set_of_lt (by omega),<- List.drop_drop,h5,List.drop_drop]
  ·have hjl:j=l.length:=by omega
   subst hjl
   rw [List.take_length] at h4
   have hil:i=(l.filter fun x => !p x).length:=by rw [<- h4]; simp; omega
   generalize (l.filter fun x => !p x)=D at *
   subst hil
   have ht:(avs L).take D.length=avs D:=by rw [zt8,h4]
   have hm1:min D.length l.length=D.length:=Nat.min_eq_left h6
   have hm2:D.length+(l.length - D.length)=l.length:=by omega
   simp [go_sem,h1,h6,hm1,hm2,h4]
   have hdl:L.drop l.length=[]:=by rw [<- h1]; simp
   rw [hdl,z5w,List.append_nil]
   rfl
end Go.Ab
namespace Go.Ab
open Enc (enc)
@[go_sem] theorem z6x {P:Program} {N:Nat} {Q:Exit->St->Prop} {α : Type} [Enc α] (o:List α) (x:AV) (f:AV->Outc) (d:Option Nat) (dd:List (List Nat)) (ks:List Kt):vmO P N Q (.el (avs o++[x]) o.length f) d dd ks=vmO P N Q (f x) d dd ks:=by
 have:(avs o++[x])[o.length]?=some x:=by rw [List.getElem?_append_right (by simp [go_sem])]; simp [go_sem]
 simp only [vmO,runO,this]
 exact propext ⟨fun ⟨e,h,k⟩=>by cases h; exact k,fun k=>⟨_,rfl,k⟩⟩
@[go_sem] theorem z9i {α : Type} [Enc α] (o:List α) (x y:AV):(avs o++[x]).set o.length y=avs o++[y]:=by
 rw [List.set_append_right _ _ (by simp [go_sem])]; simp [go_sem]
theorem z0e {α : Type} [Enc α] (l:List α) (r:List α):((ens (l++r)).map AV.p).take l.length=avs l:=by simp [avs,ens]
theorem zqq {st:St} {f:FuncId} {e:Nat} {vs:List AV} {args:List PV} {sz:Nat} {es:List PV} {K:PCall->AV->St->Prop} (hs:Sp P f args (.fresh sz es)) (hv:vs.mapM (toPV st FUEL)=some args)
  (h:es.all (fun v=>v.sz == sz)=true/\0<sz/\es.length<=LIM) (h0:vs.flatMap (deps st FUEL)=[])
  (k:K ⟨f,args,.fresh sz es,none⟩ (.own e (st.site e).length 0 es.length) (st.alloc e ⟨sz,es.map .p⟩)):zfs P st e f vs K :=
 zd9 hs hv h st (by rw [h0]; simp [killAll]) k
theorem zvl {st:St} {f:FuncId} {e:Nat} {vs:List AV} {args:List PV} {i sz:Nat} {es':List PV} {r:PV} {K:PCall->AV->St->Prop} (hs:SpM P f args i sz es' (.pure r)) (hv:vs.mapM (toPV st FUEL)=some args)
  {s g len:Nat} {sl:Bool} (href:zi1 vs[i]?=some (s,g,len,sl)) {o:AObj} (ho:st.obj s g=some o) (hi:i<vs.length) (hl:len=o.es.length) (hl2:es'.length=len) (hsz:o.sz=sz) (hall:es'.all (fun v=>v.sz == sz)=true) (hone:(es'.flatMap PV.cells).all PV.one=true)
  (h0:(vs.eraseIdx i).flatMap (deps st FUEL)++o.es.flatMap (deps st 5)=[])
  (k:K ⟨f,args,.pure r,some (i,sz,es')⟩ (.p r) (st.setObj s g ⟨sz,es'.map .p⟩)):zfs P st e f vs K:=by
 refine ze8 hs hv href ho hi hl hl2 hsz hall hone (by rw [h0]; rfl) ?_
 rw [h0]
 simpa [killAll] using k
theorem zv8 (x:GArc) (r:GRing) (hw:x.w.sm 1048576):Sp P F.ff [enc x,.ref (enc r)] (.pure (.bool (decide (x.w=r.zero)))):=by
 refine Sp.of_vmW c.ff (by simp) (Weak.openRef (t:=1) (v:=enc r) (n:=2) (by simp [go_sem]) (by simp [go_sem])) ?_
 simp [g.ff,go_sem]
 refine zaf (zu2 r x.w hw) ?_
 simp [go_sem]
def upA (r:GRing) (z y:GArc):GArc:=⟨z.f,z.l,z.t,r.plus z.w y.w⟩
noncomputable def tidA (r:GRing) (l:List GArc):List GArc:=(mrg GArc.key (upA r) id (srt GArc.key l)).filter fun x => !decide (x.w=r.zero)
theorem zv9 {r:GRing} {n:Nat} (hn1:1<=n) {l:List GArc} (h:∀ x∈l,x.w.sm n/\x.w.chk r) (k:Nat) (hk:k<=l.length) :
  (mrg GArc.key (upA r) id (l.take k)).length<=k/\∀ x∈mrg GArc.key (upA r) id (l.take k),x.w.sm ((k+1)*(n+1))/\x.w.chk r:=by
 refine zre (up:=upA r) (nw:=id) (Q:=fun k x=>x.w.sm ((k+1)*(n+1))/\x.w.chk r) (fun k x hx=>⟨hx.1.mono (Nat.mul_le_mul_right _ (by omega)),hx.2⟩) (fun x hx=>⟨(h x hx).1.mono (by omega),(h x hx).2⟩) (fun k z x hx hz=>⟨?_,(znr hz.2 (h x hx).2:(r.plus z.w x.w).chk r)⟩) (fun k x hx=>⟨hx.1.mono (Nat.mul_le_mul_right _ (by omega)),hx.2⟩) k hk
 have:=z38 hz.1 (h x hx).1 hz.2 (h x hx).2 (Nat.le_trans hn1 (by rw [Nat.add_mul]; omega)) hn1
 have e:(k+1)*(n+1)+n+1=(k+1+1)*(n+1):=by rw [Nat.add_mul (k+1) 1]; omega
 rw [<- e]; exact this
theorem z0c (r:GRing) (l:List GArc) (n:Nat) (hn:n<=90) (hn1:3<=n) (hl:l.length<=19) (h:∀ x∈l,x.w.sm n/\x.w.chk r) :
  Sp P F.iy [enc r,.sl (ens l)] (.pure (.sl (ens (tidA r l)))):=by
 have hs:=zc7 (key:=GArc.key) l
 have h':∀ x∈srt GArc.key l,x.w.sm n/\x.w.chk r:=fun x hx=>h x ((hs.2.2 x).1 hx)
 have inv:=zv9 (by omega) h'
 unfold tidA
 generalize hS:srt GArc.key l=S at *
 have hSl:S.length=l.length:=hs.2.1
 have hone:∀ x:GArc,(enc x).cells.all PV.one=true:=fun x=>by simp [go_sem,PV.cells]
 refine Sp.vz c.iy fun _=>?_
 simp [g.iy,go_sem]
 refine zqq (zos l (by omega)) (by simp [go_sem]) ⟨zgk _ _ rfl,by decide,by simp [ens,LIM]; omega⟩ (by simp [go_sem]) ?_
 simp [go_sem]
 refine zvl (zni rfl hone GArc.key F.bk l hl fun x hx y hy=>⟨_,zmi x y,zx4 rfl⟩) (by simp [go_sem]) rfl rfl (by simp) (by simp [go_sem]) (by simp [go_sem,hS,hSl]) rfl (zgk _ _ rfl) (cells_one hone _) (by simp [go_sem]) ?_
 simp [go_sem]
 rw [hS]
 have hone':3<=n+1:=by omega
 refine zai (S:=fun k:Nat=>mkSt [(2,.ptr 2 0 0 0),(6,.own 1 0 0 (mrg GArc.key (upA r) id (S.take k)).length),(14,.own 3 0 0 S.length),(15,.p (.int .i64 S.length)),(16,.p (.int .i64 k))] [(2,⟨2,[.p (enc r)]⟩),(1,⟨11,avs (mrg GArc.key (upA r) id (S.take k))⟩),(3,⟨11,avs S⟩)]) (I:=fun k=>k<=S.length) (m:=fun k=>S.length - k) 0
  (Weak.nl 6 77 11 rfl (Weak.to [2,6,14,15,16] [((2,0),2),((77,0),1),((11,0),3)] (by simp [go_sem,hSl,mrg]))) (by omega) ?_
 rintro k h1 R hn' hr hx
 have e3:=i64s k (by omega)
 obtain ⟨iv1,iv2⟩:=inv k h1
 generalize hO:mrg GArc.key (upA r) id (S.take k)=O at *
 by_cases hk:k<S.length
 rotate_left
 ·have:k=S.length:=by omega
  subst this
  rw [List.take_of_length_le (Nat.le_refl _)] at hO
  rw [hO] at hx hr
  have hb:(O.length+1)*(n+1)<=1048576:=by
   have:=Nat.mul_le_mul (show O.length+1<=20 by omega) (show n+1<=91 by omega)
   omega
  have hb2:(S.length+1)*(n+1)<=1048576:=by
   have:=Nat.mul_le_mul (show S.length+1<=20 by omega) (show n+1<=91 by omega)
   omega
  simp [g.lk,mkSt,go_sem]
  refine hx _ _ ?_
  simp [go_sem]
  refine zvk (zqd F.ff [.ref (enc r)] (fun x=>decide (x.w=r.zero)) O (by omega) fun x hx=>zv8 x r ((iv2 x hx).1.mono hb2)) (by simp [go_sem,zhl,zne]) rfl rfl (by simp) (by simp [go_sem]) (by simp [go_sem]; have:=List.length_filter_le (fun x:GArc => !decide (x.w=r.zero)) O; omega) rfl (zgk _ _ rfl) (cells_one hone _) (by simp [go_sem]) (List.length_filter_le _ _) ?_
  generalize hF:O.filter (fun x => !decide (x.w=r.zero))=F0 at *
  have hFl:F0.length<=O.length:=by rw [<- hF]; exact List.length_filter_le _ _
  have hA1:=z0e F0 (List.replicate (O.length - F0.length) (⟨0,0,0,gw0'⟩:GArc))
  have hA2:F0.length<=(ens (F0++List.replicate (O.length - F0.length) (⟨0,0,0,gw0'⟩:GArc))).length:=by simp [ens]
  generalize ens (F0++List.replicate (O.length - F0.length) (⟨0,0,0,gw0'⟩:GArc))=A0 at *
  cases hfl:A0.all PV.flat
  ·simp [go_sem,killAll]
   rw [hA1]; simp [go_sem,hA2]
  ·simp [go_sem,killAll]
   rw [hA1]; simp [go_sem,hA2]
 have hw:=h' _ (List.getElem_mem hk)
 have hnx:=zhu (key:=GArc.key) (up:=upA r) (nw:=id) hk
 rw [hO] at hnx
 have cz:=zgl hw.2.1
 have sz:=zvs (n:=n) hw.2.1 hn1
 have pz:=zc9 hw.2
 rcases List.eq_nil_or_concat O with rfl|⟨o,z,rfl⟩
 ·simp [g.lk,mkSt,go_sem,hk]
  refine zae hk ?_
  refine zaa (zgm r) rfl ?_
  simp [go_sem]
  refine zaf (zjp r S[k].w r.zero n hw.1 sz (by omega) (by omega) hw.2 cz) ?_
  rw [pz]
  simp [go_sem,e3]
  refine hn' (k+1) _ (Weak.to [2,6,14,15,16] [((2,0),2),((59,0),1),((3,0),3)] ?_) (by omega) (by omega)
  rw [hnx]
  simp [mkSt,go_sem,mst]
 ·have e4:IntKind.i64.wrap (o.length:Int)=(o.length:Int):=i64w (by omega) (by simp at iv1; omega)
  simp [g.lk,mkSt,go_sem,hk,e4]
  refine zae hk ?_
  refine zaf (zmi z S[k]) ?_
  simp [go_sem,e4]
  have hz:=iv2 z (by simp)
  have hb2:(k+1)*(n+1)<=2000:=by
   have:=Nat.mul_le_mul (show k+1<=20 by omega) (show n+1<=91 by omega)
   omega
  have hb3:n<=(k+1)*(n+1):=by rw [Nat.add_mul]; omega
  have hle:lexI z.key S[k].key=0 ↔ z.key=S[k].key:=zx5 (by simp [GArc.key])
  refine ⟨fun h0=>?_,fun h0=>?_⟩
  ·rw [List.concat_eq_append,zrd (key:=GArc.key) (z:=z) (y:=S[k]) (hle.1 h0)] at hnx
   refine zaf (zjp r z.w S[k].w _ hz.1 (hw.1.mono hb3) hb2 (by omega) hz.2 hw.2) ?_
   simp [go_sem,e3,e4]
   refine hn' (k+1) _ (Weak.to [2,6,14,15,16] [((2,0),2),((1,0),1),((3,0),3)] ?_) (by omega) (by omega)
   rw [hnx]
   simp [mkSt,go_sem,upA]
  ·rw [List.concat_eq_append,znx (key:=GArc.key) (z:=z) (y:=S[k]) (fun h=>h0 (hle.2 h))] at hnx
   refine zaa (zgm r) rfl ?_
   simp [go_sem]
   refine zaf (zjp r S[k].w r.zero n hw.1 sz (by omega) (by omega) hw.2 cz) ?_
   rw [pz]
   simp [go_sem,e3]
   refine ⟨by simp at iv1; omega,hn' (k+1) _ (Weak.to [2,6,14,15,16] [((2,0),2),((59,0),1),((3,0),3)] ?_) (by omega) (by omega)⟩
   rw [hnx]
   simp [mkSt,go_sem,upA]
end Go.Ab
namespace Go.Ab
open Enc (enc)
structure GAuto.ok (a:GAuto):Prop where
 ring:a.ring.ok=true
 sy1:1<=a.sy
 sy2:a.sy<=32
 st1:0<=a.st
 st2:a.st<=64
 il:(a.ini.length:Int)=a.st
 fl:(a.fin.length:Int)=a.st
 al:a.arcs.length<=2048
 arcs:∀ x∈a.arcs,inA x a
 ini:∀ w∈a.ini,w.chk a.ring
 fin:∀ w∈a.fin,w.chk a.ring
theorem z51 {r:GRing} {l:List GW}:(!l.any fun w => !decide (w.chk r))=true ↔ ∀ w∈l,w.chk r:=by
 simp
theorem GAuto.vb_iff {a:GAuto}:a.vb=true ↔ a.ok:=by
 unfold GAuto.vb
 simp only [Bool.and_eq_true,decide_eq_true_eq,z51]
 constructor
 ·rintro ⟨h1,h2,h3,h4,h5,h6,h7,h8,h9,h10,h11⟩
  exact ⟨h1,h2,h3,h4,h5,h6,h7,h8,fun x hx=>by simpa using (by simpa using h9:∀ x∈a.arcs,inA x a) x hx,h10,h11⟩
 ·rintro ⟨h1,h2,h3,h4,h5,h6,h7,h8,h9,h10,h11⟩
  exact ⟨h1,h2,h3,h4,h5,h6,h7,h8,by simpa using h9,h10,h11⟩
def ztn:GAuto:=⟨⟨0,[]⟩,0,0,[],[],[]⟩
noncomputable def GAuto.nf (a:GAuto):GAuto:=⟨a.ring,a.sy,a.st,a.ini,a.fin,tidA a.ring a.arcs⟩
theorem GAuto.sm.mono {a:GAuto} {m n:Nat} (h:a.sm m) (k:m<=n):a.sm n:=⟨fun w hw=>(h.ini w hw).mono k,fun w hw=>(h.fin w hw).mono k,fun x hx=>(h.arcs x hx).mono k⟩
theorem z5p {r:GRing} {l:List GW} (h:∀ w∈l,w.chk r):(l.map fun w=>r.plus w r.zero)=l:=by
 have:(l.map fun w=>r.plus w r.zero)=l.map id:=List.map_congr_left fun w hw=>zc9 (h w hw)
 rw [this,List.map_id]
theorem z4l {r:GRing} (h:r.ok=true):r.parts.length<=3:=by
 by_cases h6:r.kind=6
 ·exact (GRing.ok_parts h h6).2.1
 ·simp [(GRing.ok_kind h h6).2.2]
theorem zt1 (r:GRing) (l:List GW) (n:Nat) (hn:n<=90) (hn1:3<=n) (hr:r.ok=true) (hl:l.length<=64) (h:∀ w∈l,w.sm n) (c:∀ w∈l,w.chk r):Sp P F.fc [enc r,.sl (ens l)] (.pure (.sl (ens l))):=by
 have k:=z2j r l n (by omega) (by omega) (by omega) (fun w hw=>⟨h w hw,c w hw⟩) (zvs hr hn1) (zgl hr)
 rwa [z5p c] at k
theorem zus (a:GAuto) (n:Nat) (hn:n<=90) (hn1:3<=n) (h:a.sm n) (hl:a.arcs.length<=19) :
  Sp P F.im [enc a] (.pure (.tup [enc (if a.vb then a.nf else ztn),.int .i64 (if a.vb then 0 else 4)])):=by
 refine Sp.vz c.im fun _=>?_
 simp [g.im,go_sem]
 refine zaf (zvy a (h.mono (by omega))) ?_
 cases hv:a.vb
 ·simp [go_sem,ztn]
 have ok:=GAuto.vb_iff.1 hv
 have i1:=ok.il; have i2:=ok.fl; have i3:=ok.st2
 simp [go_sem]
 refine zaf (z0r a.ring (by have:=z4l ok.ring; omega)) ?_
 simp [go_sem]
 refine zaf (zt1 a.ring a.ini n hn hn1 ok.ring (by omega) h.ini ok.ini) ?_
 simp [go_sem]
 refine zaf (zt1 a.ring a.fin n hn hn1 ok.ring (by omega) h.fin ok.fin) ?_
 simp [go_sem]
 refine zaf (z0c a.ring a.arcs n hn hn1 hl fun x hx=>⟨h.arcs x hx,(ok.arcs x hx).2.2.2.2.2.2⟩) ?_
 simp [go_sem,GAuto.nf]
end Go.Ab
namespace Go.Ab
open Enc (enc)
structure GView where
 a:GAuto
 first:List Int
instance:Enc GView:=⟨fun x=>.agg [.int .i64 x.a.ring.kind,.sl (ens x.a.ring.parts),.int .i64 x.a.sy,.int .i64 x.a.st,.sl (ens x.a.ini),.sl (ens x.a.fin),.sl (ens x.a.arcs),.sl (ens x.first)],8,by decide,fun _=>rfl⟩
@[go_sem] theorem z9p (x:GView):enc x=.agg [.int .i64 x.a.ring.kind,.sl (ens x.a.ring.parts),.int .i64 x.a.sy,.int .i64 x.a.st,.sl (ens x.a.ini),.sl (ens x.a.fin),.sl (ens x.a.arcs),.sl (ens x.first)]:=rfl
@[go_sem] theorem z6d:Enc.sz GView=8:=rfl
theorem zsc (v:GView) (w:GW) (hw:w.sm 1048576):Sp P F.ej [enc v,enc w] (.pure (.bool (decide (w=v.a.ring.zero)))):=by
 refine Sp.vz c.ej fun _=>?_
 simp [g.ej,go_sem]
 refine zaf (zgm v.a.ring) ?_
 simp [go_sem]
 refine zaf (zdf w hw v.a.ring.zero) ?_
 simp [go_sem]
theorem zlp (v:GView) (q:Nat) (hq:q<v.a.ini.length) (hw:∀ w∈v.a.ini,w.sm 1048576):Sp P F.cg [enc v,.int .i64 q] (.pure (.bool (decide (v.a.ini[q]≠v.a.ring.zero)))):=by
 refine Sp.vz c.cg fun _=>?_
 simp [g.cg,go_sem]
 refine zae hq ?_
 refine zaf (zsc v v.a.ini[q] (hw _ (List.getElem_mem hq))) ?_
 simp [go_sem]
theorem zyx (v:GView) (q:Nat) (hq:q<v.a.fin.length) (hw:∀ w∈v.a.fin,w.sm 1048576):Sp P F.d8 [enc v,.int .i64 q] (.pure (.bool (decide (v.a.fin[q]≠v.a.ring.zero)))):=by
 refine Sp.vz c.d8 fun _=>?_
 simp [g.d8,go_sem]
 refine zae hq ?_
 refine zaf (zsc v v.a.fin[q] (hw _ (List.getElem_mem hq))) ?_
 simp [go_sem]
theorem zvx (v:GView) (hl:v.a.arcs.length<=1000000):Sp P F.gv [enc v] (.pure (.bool (v.a.arcs.any fun x=>decide (x.l=0)))):=by
 refine Sp.vz c.gv fun _=>?_
 generalize hr:(v.a.arcs.any fun x=>decide (x.l=0))=res
 simp [g.gv,go_sem]
 refine zai (S:=fun k:Nat=>mkSt [(7,.p (.sl (ens v.a.arcs))),(8,.p (.int .i64 v.a.arcs.length)),(9,.p (.int .i64 k))] []) (I:=fun k=>k<=v.a.arcs.length/\∀ x∈v.a.arcs.take k,x.l≠0) (m:=fun k=>v.a.arcs.length - k) 0
  (Weak.to [7,8,9] [] (by simp [go_sem])) ⟨by omega,by simp⟩ ?_
 rintro k ⟨h6,h7⟩ R hn' hr' hx
 have e1:=i64s k (by omega)
 simp [g.nm,mkSt,go_sem]
 refine ⟨fun hk=>?_,fun hk=>hx _ _ ?_⟩
 ·refine zae hk ?_
  refine ⟨fun h0=>hr' _ ?_,fun h0=>?_⟩
  ·have:res=true:=by rw [<- hr]; simp only [List.any_eq_true,decide_eq_true_eq]; exact ⟨_,List.getElem_mem hk,h0⟩
   simp [go_sem,this]
  ·simp [go_sem,e1]
   refine hn' (k+1) _ (Weak.to [7,8,9] [] (by simp [mkSt,go_sem])) ⟨by omega,fun x hx=>?_⟩ (by omega)
   rw [List.take_succ_eq_append_getElem hk] at hx
   rcases List.mem_append.1 hx with hx|hx
   ·exact h7 x hx
   ·simp only [List.mem_singleton] at hx; subst hx; exact h0
 ·have hk':k=v.a.arcs.length:=by omega
  have:res=false:=by
   rw [<- hr,List.any_eq_false]; intro x hx
   rw [hk',List.take_length] at h7
   simpa using h7 x hx
  simp [go_sem,this]
end Go.Ab
namespace Go.Ab
open Enc (enc)
def natR (n:Nat):GRat:=⟨false,lb n,[]⟩
theorem zic (n:Nat):rto (n:Rat)=natR n:=by
 have:decide (((n:Nat):Int)<0)=false:=by simp
 unfold rto natR; rw [Rat.num_natCast,Rat.den_natCast,this]; simp
theorem zi0 (n:Nat):(natR n).v=(n:Rat):=by rw [<- zic,zg3]
theorem zkr:natR 0=⟨false,[],[]⟩:=by simp [natR]
theorem zs6 (a b:Nat):rto ((natR a).v+(natR b).v)=natR (a+b):=by
 rw [zi0,zi0,<- zic]; congr 1; push_cast; rfl
theorem zs5 {a b:Nat} (h:b<=a):rto ((natR a).v - (natR b).v)=natR (a - b):=by
 rw [zi0,zi0,<- zic]; congr 1
 have:(a:Rat)=((a - b:Nat):Rat)+(b:Rat):=by rw [<- Rat.natCast_add]; congr 1; omega
 rw [this,Rat.add_sub_cancel]
theorem zhs (a b:Nat):sgnR ((natR a).v - (natR b).v)=if a<b then -1 else if b<a then 1 else 0:=by
 rw [zi0,zi0]
 have:(a:Rat) - (b:Rat)=(((a:Int) - (b:Int):Int):Rat):=by push_cast; rfl
 rw [this]
 have key:∀ z:Int,sgnR (z:Rat)=if z=0 then 0 else if z<0 then -1 else 1:=fun z=>by unfold sgnR; rw [Rat.num_intCast]
 rw [key]
 by_cases h1:a<b
 ·rw [if_pos h1,if_neg (by omega),if_pos (by omega)]
 ·rw [if_neg h1]
  by_cases h2:b<a
  ·rw [if_pos h2,if_neg (by omega),if_neg (by omega)]
  ·rw [if_neg h2,if_pos (by omega)]
theorem zil {n k:Nat} (h:n<4294967296^k):(natR n).sm k:=⟨zat h,by simp [natR]⟩
def zas (l:List GArc) (q:Nat):List GArc:=l.filter fun x=>decide (x.f=(q:Int))
def ltA (l:List GArc) (q:Nat):Nat:=(l.filter fun x=>decide (x.f<(q:Int))).length
def fstA (l:List GArc) (N:Nat):List Int:=(List.range (N+1)).map fun q=>((ltA l q:Nat):Int)
def FS (l:List GArc):Prop:=l.Pairwise fun x y=>x.f<=y.f
theorem z28 (l:List GArc) (q:Nat):ltA l q<=l.length:=List.length_filter_le _ _
theorem zn2 (l:List GArc) (q:Nat):ltA l (q+1)=ltA l q+(zas l q).length:=by
 unfold ltA zas
 induction l with
 | nil=>rfl
 | cons x l ih =>
  simp only [List.filter_cons,decide_eq_true_eq]
  by_cases h1:x.f<(q:Int)
  ·rw [if_pos (by omega),if_pos h1,if_neg (by omega)]; simp only [List.length_cons]; omega
  ·by_cases h2:x.f=(q:Int)
   ·rw [if_pos (by omega),if_neg h1,if_pos h2]; simp only [List.length_cons]; omega
   ·rw [if_neg (by omega),if_neg h1,if_neg h2]; exact ih
theorem zys:∀ {l:List GArc} (q:Nat),FS l->l.drop (ltA l q)=l.filter fun x=>decide ((q:Int)<=x.f)
 | [],_,_=>by simp [ltA]
 | x::l,q,h=>by
  obtain ⟨h1,h2⟩:=List.pairwise_cons.1 h
  by_cases hx:x.f<(q:Int)
  ·have e:ltA (x::l) q=ltA l q+1:=by simp [ltA,List.filter_cons,hx]
   rw [e,List.drop_succ_cons,zys q h2,List.filter_cons,if_neg (by simp; omega)]
  ·have e:ltA (x::l) q=0:=by
    unfold ltA
    rw [List.length_eq_zero_iff,List.filter_eq_nil_iff]
    intro y hy
    rcases List.mem_cons.1 hy with rfl|hy
    ·simpa using hx
    ·have:=h1 y hy; simp; omega
   rw [e,List.drop_zero]
   symm
   rw [List.filter_eq_self]
   intro y hy
   rcases List.mem_cons.1 hy with rfl|hy
   ·simp; omega
   ·have:=h1 y hy; simp; omega
theorem zyr:∀ {l:List GArc} (q:Nat),FS l->(∀ x∈l,(q:Int)<=x.f)->l.take (zas l q).length=zas l q
 | [],_,_,_=>by simp [zas]
 | x::l,q,h,hq=>by
  obtain ⟨h1,h2⟩:=List.pairwise_cons.1 h
  by_cases hx:x.f=(q:Int)
  ·have e:zas (x::l) q=x::zas l q:=by simp [zas,List.filter_cons,hx]
   rw [e,List.length_cons,List.take_succ_cons,zyr q h2 fun y hy=>hq y (by simp [hy])]
  ·have e:zas (x::l) q=[]:=by
    unfold zas
    rw [List.filter_eq_nil_iff]
    intro y hy
    have:=hq x (by simp)
    rcases List.mem_cons.1 hy with rfl|hy
    ·simpa using hx
    ·have:=h1 y hy; simp; omega
   rw [e]; rfl
theorem zu5 {l:List GArc} (q:Nat) (h:FS l):(l.drop (ltA l q)).take (ltA l (q+1) - ltA l q)=zas l q:=by
 have e:ltA l (q+1) - ltA l q=(zas l q).length:=by rw [zn2]; omega
 have hf:zas (l.filter fun x=>decide ((q:Int)<=x.f)) q=zas l q:=by
  unfold zas
  rw [List.filter_filter]
  apply List.filter_congr
  intro x _
  by_cases hx:x.f=(q:Int)
  ·simp [hx]
  ·simp [hx]
 rw [e,zys q h,<- hf]
 exact zyr q (List.Pairwise.filter _ h) (fun x hx=>by simpa using (List.mem_filter.1 hx).2)
noncomputable def cn (r:GRing) (fin:List GW) (l:List GArc):Nat->Nat->Nat
 | 0=>fun q=>if fin.getD q r.zero=r.zero then 0 else 1
 | n+1=>fun q=>((zas l q).map fun x=>cn r fin l n x.t.toNat).sum
theorem zwf {α : Type} {f : α -> Nat} {B:Nat}:∀ {l:List α},(∀ x∈l,f x<=B)->(l.map f).sum<=l.length*B
 | [],_=>by simp
 | x::l,h=>by
  have h1:=h x (by simp)
  have h2:=zwf (l:=l) (B:=B) fun y hy=>h y (by simp [hy])
  simp only [List.map_cons,List.sum_cons,List.length_cons,Nat.succ_mul]; omega
theorem zzh (r:GRing) (fin:List GW) {l:List GArc} {K:Nat} (hl:l.length<=K):∀ n q,cn r fin l n q<=K^n
 | 0,q=>by simp only [cn]; split<;>simp
 | n+1,q=>by
  simp only [cn]
  refine Nat.le_trans (zwf fun x _=>zzh r fin hl n _) ?_
  rw [Nat.pow_succ,Nat.mul_comm]
  exact Nat.mul_le_mul_left _ (Nat.le_trans (List.length_filter_le _ _) hl)
end Go.Ab
namespace Go.Ab
open Enc (enc)
def mp {α : Type} (n:Nat) (f:Nat -> α):List α := (List.range n).map f
theorem zbu {α : Type} (n:Nat) (f:Nat -> α):(mp n f).length=n:=by simp [mp]
theorem ze0 {α : Type} {n i:Nat} (f:Nat -> α) (h:i<(mp n f).length):(mp n f)[i]=f i:=by simp [mp]
theorem zmo {α : Type} {n i:Nat} (f:Nat -> α) (v : α):(mp n f).set i v=mp n fun q=>if q=i then v else f q:=by
 apply List.ext_getElem
 ·simp [mp]
 ·intro k h1 h2
  rw [List.getElem_set]
  simp only [mp,List.getElem_map,List.getElem_range]
  by_cases h:i=k
  ·subst h; simp
  ·simp [h,Ne.symm h]
theorem zco {α : Type} {n:Nat} {f g:Nat -> α} (h:∀ q,q<n->f q=g q):mp n f=mp n g:=List.map_congr_left fun q hq=>h q (List.mem_range.1 hq)
theorem zjr {α : Type} (n:Nat) (a : α):mp n (fun _=>a)=List.replicate n a:=by simp [mp,List.map_const']
def ctA (l:List GArc) (q:Nat):Nat:=(l.filter fun x=>decide (x.f+1=(q:Int))).length
theorem z2d (l:List GArc) (x:GArc) (q:Nat):ctA (l++[x]) q=if x.f+1=(q:Int) then ctA l q+1 else ctA l q:=by
 unfold ctA
 rw [List.filter_append,List.length_append,List.filter_cons]
 by_cases h:x.f+1=(q:Int)
 ·simp [h]
 ·simp [h]
theorem z2e (l:List GArc) (q:Nat):ctA l (q+1)=(zas l q).length:=by
 unfold ctA zas; congr 1
 apply List.filter_congr; intro x _
 by_cases h:x.f=(q:Int)
 ·simp [h]
 ·simp [h]
theorem z83 (l:List GArc) (q:Nat):ctA l q<=l.length:=List.length_filter_le _ _
def zjh (a:GAuto) (c:AV):AV:=.agg [.p (.int .i64 a.ring.kind),.p (.sl (ens a.ring.parts)),.p (.int .i64 a.sy),.p (.int .i64 a.st),.p (.sl (ens a.ini)),.p (.sl (ens a.fin)),.p (.sl (ens a.arcs)),c]
def z8v:AV:=.agg [.p (.int .i64 0),.nil,.p (.int .i64 0),.p (.int .i64 0),.nil,.nil,.nil,.nil]
def v1S (a:GAuto) (N k:Nat):St:=mkSt [(2,.ptr 2 0 0 0),(4,.ptr 4 0 0 0),(6,.ptr 6 0 0 0),(26,.p (.sl (ens a.arcs))),(27,.p (.int .i64 a.arcs.length)),(28,.p (.int .i64 k))]
 [(2,⟨8,[z8v]⟩),(4,⟨7,[.p (enc a)]⟩),(6,⟨8,[zjh a (.own 23 0 0 (N+1))]⟩),(23,⟨1,avs (mp (N+1) fun q=>((ctA (a.arcs.take k) q:Nat):Int))⟩)]
def pfx (l:List GArc) (i q:Nat):Int:=if q<=i then ((ltA l q:Nat):Int) else ((ctA l q:Nat):Int)
def v2S (a:GAuto) (N i:Nat):St:=mkSt [(2,.ptr 2 0 0 0),(6,.ptr 6 0 0 0),(43,.p (.int .i64 N)),(44,.p (.int .i64 i))]
 [(2,⟨8,[z8v]⟩),(6,⟨8,[zjh a (.own 23 0 0 (N+1))]⟩),(23,⟨1,avs (mp (N+1) (pfx a.arcs i))⟩)]
structure GAuto.inN (a:GAuto) (N:Nat):Prop where
 st:a.st=(N:Int)
 f:∀ x∈a.arcs,0<=x.f/\x.f<(N:Int)
theorem z3o {a:GAuto} {N:Nat} (h:a.inN N) (hN:N<=1000) (hl:a.arcs.length<=100000) {Q:Exit->St->Prop} {ks:List Kt} {st:St} (hw:Weak st (v1S a N 0)) (hx:zd0 P 62 Q (zbh 0 ks) 0 (v1S a N a.arcs.length)):vL P 62 Q g.mi ks st:=by
 refine zai (S:=fun k:Nat=>v1S a N k) (I:=fun k=>k<=a.arcs.length) (m:=fun k=>a.arcs.length - k) 0 hw (by omega) ?_
 rintro k hk R hn hr hx'
 have e1:=i64s k (by omega)
 simp [g.mi,v1S,mkSt,zjh,z8v,go_sem]
 refine ⟨fun hlt=>?_,fun hge=>?_⟩
 ·refine zae hlt ?_
  obtain ⟨f0,f1⟩:=h.f _ (List.getElem_mem hlt)
  obtain ⟨q,hq⟩:∃ q:Nat,a.arcs[k].f=(q:Int):=⟨a.arcs[k].f.toNat,by omega⟩
  have hqN:q+1<(mp (N+1) fun q=>((ctA (a.arcs.take k) q:Nat):Int)).length:=by rw [zbu]; omega
  have e2:=i64s q (by omega)
  have hc:=z83 (a.arcs.take k) (q+1)
  rw [List.length_take] at hc
  have e3:IntKind.i64.wrap (((ctA (a.arcs.take k) (q+1):Nat):Int)+1)=((ctA (a.arcs.take k) (q+1)+1:Nat):Int):=i64w (by omega) (by omega)
  simp [go_sem,hq,e2,zbu]
  refine ⟨⟨by omega,by omega⟩,zae hqN ?_⟩
  simp only [ze0,e3,e1]
  refine ⟨⟨by omega,by omega⟩,zae hqN ?_⟩
  refine hn (k+1) _ (Weak.to [2,4,6,26,27,28] [((2,0),2),((4,0),4),((6,0),6),((23,0),23)] ?_) (by omega) (by omega)
  have hset:(avs (mp (N+1) fun q=>((ctA (a.arcs.take k) q:Nat):Int))).set (q+1) (.p (.int .i64 ((ctA (a.arcs.take k) (q+1):Nat)+1)))=avs (mp (N+1) fun q=>((ctA (a.arcs.take (k+1)) q:Nat):Int)):=by
   have:(AV.p (.int .i64 ((ctA (a.arcs.take k) (q+1):Nat)+1)))=.p (enc ((((ctA (a.arcs.take k) (q+1):Nat)+1:Nat)):Int)):=by simp [go_sem]
   rw [this]
   have hs:∀ (l:List Int) (i:Nat) (v:Int),(avs l).set i (.p (enc v))=avs (l.set i v):=fun l i v=>by simp [avs,ens,List.map_set]
   rw [hs,zmo]
   congr 1
   apply zco
   intro j hj
   rw [List.take_succ_eq_append_getElem hlt,z2d,hq]
   by_cases hj2:j=q+1
   ·subst hj2; simp
   ·rw [if_neg hj2,if_neg (by omega)]
  simp [v1S,mkSt,go_sem,zjh,z8v,hset]
 ·have:k=a.arcs.length:=by omega
  subst this
  exact hx' _ _ (by simpa [v1S,mkSt,zjh,z8v,go_sem] using hx)
theorem z3n {a:GAuto} {N:Nat} (hN:N<=1000) (hl:a.arcs.length<=100000) {Q:Exit->St->Prop} {ks:List Kt} {st:St} (hw:Weak st (v2S a N 0)) (hx:zd0 P 62 Q (zbh 2 ks) 2 (v2S a N N)):vL P 62 Q g.mj ks st:=by
 refine zai (S:=fun k:Nat=>v2S a N k) (I:=fun k=>k<=N) (m:=fun k=>N - k) 0 hw (by omega) ?_
 rintro k hk R hn hr hx'
 have e1:=i64s k (by omega)
 simp [g.mj,v2S,mkSt,zjh,z8v,go_sem]
 refine ⟨fun hlt=>?_,fun hge=>?_⟩
 ·have hb:k+1<(mp (N+1) (pfx a.arcs k)).length:=by rw [zbu]; omega
  have hb0:k<(mp (N+1) (pfx a.arcs k)).length:=by rw [zbu]; omega
  have h1:pfx a.arcs k (k+1)=((ctA a.arcs (k+1):Nat):Int):=by simp [pfx]; omega
  have h2:pfx a.arcs k k=((ltA a.arcs k:Nat):Int):=by simp [pfx]
  have h3:=zn2 a.arcs k
  have h4:=z28 a.arcs (k+1)
  rw [<- z2e] at h3
  have e3:IntKind.i64.wrap (((ctA a.arcs (k+1):Nat):Int)+((ltA a.arcs k:Nat):Int))=((ltA a.arcs (k+1):Nat):Int):=by rw [i64w (by omega) (by omega)]; omega
  simp [go_sem,e1,zbu]
  refine ⟨⟨by omega,by omega⟩,zae hb ?_⟩
  simp only [ze0,h1]
  refine ⟨by omega,zae hb0 ?_⟩
  simp only [ze0,h2,e3]
  refine ⟨⟨by omega,by omega⟩,zae hb ?_⟩
  refine hn (k+1) _ (Weak.to [2,6,43,44] [((2,0),2),((6,0),6),((23,0),23)] ?_) (by omega) (by omega)
  have hset:(avs (mp (N+1) (pfx a.arcs k))).set (k+1) (.p (.int .i64 ((ltA a.arcs (k+1):Nat):Int)))=avs (mp (N+1) (pfx a.arcs (k+1))):=by
   have hs:∀ (l:List Int) (i:Nat) (v:Int),(avs l).set i (.p (.int .i64 v))=avs (l.set i v):=fun l i v=>by
    show (avs l).set i (.p (enc v))=_
    simp [avs,ens,List.map_set]
   rw [hs,zmo]
   congr 1
   apply zco
   intro j hj
   unfold pfx
   by_cases hj2:j=k+1
   ·subst hj2; simp
   ·rw [if_neg hj2]
    by_cases hj3:j<=k
    ·rw [if_pos hj3,if_pos (by omega)]
    ·rw [if_neg hj3,if_neg (by omega)]
  simp [v2S,mkSt,go_sem,zjh,z8v,hset]
 ·have:k=N:=by omega
  subst this
  exact hx' _ _ (by simpa [v2S,mkSt,zjh,z8v,go_sem] using hx)
end Go.Ab
namespace Go.Ab
open Enc (enc)
attribute [local go_sem] zal Opd.slots
def z2y:List Int->List GW->List GW->List GW
 | k::ks,v::vs,w::ws=>z2x k v w::z2y ks vs ws
 | _,_,_=>[]
def GRing.times (r:GRing) (v w:GW):GW:=if r.kind=6 then .mk gr0 0 false 0 [] (z2y r.parts v.parts w.parts) else z2x r.kind v w
end Go.Ab
namespace Go.Ab
open Enc (enc)
def mD (n:Nat):Nat:=6^n
def mB (n:Nat):Nat:=6291456^n
def qm (n:Nat) (q:Rat):Prop:=qb (mD n) (mB n) q
structure GW.mb1 (n:Nat) (w:GW):Prop where
 q:qm n w.q.v
 p:∀ e,qm n (pc w.poly e)
structure GW.mb (n:Nat) (w:GW):Prop where
 o:w.mb1 n
 ps:∀ x∈w.parts,x.mb1 n
end Go.Ab
namespace Go.Ab
open Enc (enc)
end Go.Ab
namespace Go.Ab
open Enc (enc)
theorem z3c {v w:GW} (h1:v.q=w.q) (h2:v.cost=w.cost) (h3:v.inf=w.inf) (h4:v.set=w.set) (h5:v.poly=w.poly) (h6:v.parts=w.parts):v=w:=by
 cases v; cases w
 simp only [GW.q_mk,GW.cost_mk,GW.inf_mk,GW.set_mk,GW.poly_mk,GW.parts_mk] at h1 h2 h3 h4 h5 h6
 subst h1 h2 h3 h4 h5 h6; rfl
theorem ya4 {x y:GRat} (hx:x.valid=true) (hy:y.valid=true) (h:x.v=y.v):x=y:=by
 rw [<- znl hx,<- znl hy,h]
def trop (w:GW):Int:=if w.inf then 1099511627777 else w.cost
theorem zsg {v w:GW} (hv:v.si 2) (hw:w.si 2) (h:trop v=trop w):v=w:=by
 obtain ⟨h1,h2,h3,h4,h5,h6,h7⟩:=si2.1 hv
 obtain ⟨k1,k2,k3,k4,k5,k6,k7⟩:=si2.1 hw
 unfold trop at h
 refine z3c (h2.trans k2.symm) ?_ ?_ (h3.trans k3.symm) (h4.trans k4.symm) (h1.trans k1.symm)
 ·cases hi:v.inf<;>cases hj:w.inf<;>simp [hi,hj] at h<;>try omega
  rw [h7 hi,k7 hj]
 ·cases hi:v.inf<;>cases hj:w.inf<;>simp [hi,hj] at h<;>first|rfl|omega
theorem zex {v w:GW} (hv:v.si 2) (hw:w.si 2):trop (za4 2 v w)=if trop w<trop v then trop w else trop v:=by
 obtain ⟨h1,h2,h3,h4,h5,h6,h7⟩:=si2.1 hv
 obtain ⟨k1,k2,k3,k4,k5,k6,k7⟩:=si2.1 hw
 unfold za4
 rw [if_neg (by omega),if_pos rfl]
 unfold trop
 cases hi:v.inf<;>cases hj:w.inf<;>simp [hi,hj]<;>(try split)<;>simp_all<;>omega
theorem zph {a b c:Rat} (h:a<b) (k:b<c):a<c:=Rat.not_le.1 fun e=>Rat.not_lt.2 (Rat.le_trans (Rat.le_of_lt k) e) h
theorem zw3 {a b c:Rat} (h:a<=b) (k:b<c):a<c:=Rat.not_le.1 fun e=>Rat.not_le.2 k (Rat.le_trans e h)
theorem zw7 (x y:GW):za4 3 x y=if x.q.v<y.q.v then y else x:=by simp [za4]
theorem zmg {k:Int} (hk:1<=k/\k<=5) {v w:GW} (hv:v.si k) (hw:w.si k):za4 k v w=za4 k w v:=by
 have:k=1\/k=2\/k=3\/k=4\/k=5:=by omega
 rcases this with rfl|rfl|rfl|rfl|rfl
 ·simp only [za4,if_true,Rat.add_comm]
 ·refine zsg (zc4 hk hv hw) (zc4 hk hw hv) ?_
  rw [zex hv hw,zex hw hv]
  split<;>split<;>omega
 ·obtain ⟨h1,h2,h3,h4,h5,h6,h7,h8⟩:=si3.1 hv
  obtain ⟨k1,k2,k3,k4,k5,k6,k7,k8⟩:=si3.1 hw
  rw [zw7,zw7]
  by_cases a:v.q.v<w.q.v
  ·rw [if_pos a,if_neg (Rat.not_lt.2 (Rat.le_of_lt a))]
  ·by_cases b:w.q.v<v.q.v
   ·rw [if_neg a,if_pos b]
   ·rw [if_neg a,if_neg b]
    have e:v.q.v=w.q.v:=Rat.le_antisymm (Rat.not_lt.1 b) (Rat.not_lt.1 a)
    exact z3c (ya4 h6 k6 e) (h3.trans k3.symm) (h2.trans k2.symm) (h4.trans k4.symm) (h5.trans k5.symm) (h1.trans k1.symm)
 ·simp [za4,UInt64.or_comm]
 ·have pv:=si_p hv
  have pw:=si_p hw
  have e:padd v.poly w.poly=padd w.poly v.poly:=znp (zc5 _ pv) (zc5 _ pw) fun e=>by
   rw [zf5 _ (zan.1 pw).1,zf5 _ (zan.1 pv).1,Rat.add_comm]
  simp [za4,e]
theorem zkk {k:Int} (hk:1<=k/\k<=5) {u v w:GW} (hu:u.si k) (hv:v.si k) (hw:w.si k):za4 k (za4 k u v) w=za4 k u (za4 k v w):=by
 have:k=1\/k=2\/k=3\/k=4\/k=5:=by omega
 rcases this with rfl|rfl|rfl|rfl|rfl
 ·simp only [za4,if_true,GW.q_mk,zg3,Rat.add_assoc]
 ·refine zsg (zc4 hk (zc4 hk hu hv) hw) (zc4 hk hu (zc4 hk hv hw)) ?_
  rw [zex (zc4 hk hu hv) hw,zex hu hv,zex hu (zc4 hk hv hw),zex hv hw]
  repeat' split
  all_goals omega
 ·have s:=zw7
  rw [s u v,s v w]
  by_cases a:u.q.v<v.q.v
  ·rw [if_pos a]
   by_cases b:v.q.v<w.q.v
   ·rw [if_pos b,s v w,s u w,if_pos b,if_pos (zph a b)]
   ·rw [if_neg b,s v w,s u v,if_neg b,if_pos a]
  ·rw [if_neg a]
   by_cases b:v.q.v<w.q.v
   ·rw [if_pos b]
   ·rw [if_neg b,s u w,s u v,if_neg a,if_neg]
    intro c
    exact b (zw3 (Rat.not_lt.1 a) c)
 ·simp [za4,GW.set_mk,UInt64.or_assoc]
 ·have pu:=si_p hu
  have pv:=si_p hv
  have pw:=si_p hw
  have e:padd (padd u.poly v.poly) w.poly=padd u.poly (padd v.poly w.poly):=znp (zc5 _ (zc5 _ pu)) (zc5 _ pu) fun e=>by
   rw [zf5 _ (zan.1 pw).1,zf5 _ (zan.1 pv).1,zf5 _ (zan.1 (zc5 _ pv)).1,zf5 _ (zan.1 pw).1,Rat.add_assoc]
  simp [za4,GW.poly_mk,e]
theorem zun:∀ {ks:List Int} {vs ws:List GW},(∀ k∈ks,1<=k/\k<=5)->vs.length=ks.length->ws.length=ks.length->(∀ i,(h:i<ks.length)->(h':i<vs.length)->vs[i].si ks[i])->(∀ i,(h:i<ks.length)->(h':i<ws.length)->ws[i].si ks[i])->zf3 ks vs ws=zf3 ks ws vs:=by
 intro ks vs ws hk lv lw hv hw
 refine List.ext_getElem (by rw [zbn lv lw,zbn lw lv]) fun i h1 h2=>?_
 have h3:i<ks.length:=by rw [zbn lv lw] at h1; exact h1
 rw [zb2 h3 (by omega) (by omega) h1,zb2 h3 (by omega) (by omega) h2]
 exact zmg (hk _ (List.getElem_mem h3)) (hv i h3 (by omega)) (hw i h3 (by omega))
theorem zkj {r:GRing} {v w:GW} (cv:v.chk r) (cw:w.chk r):r.plus v w=r.plus w v:=by
 by_cases h6:r.kind=6
 ·have hp:=GRing.ok_parts cv.1 h6
  obtain ⟨lv,_,sv⟩:=cv.2.2 h6
  obtain ⟨lw,_,sw⟩:=cw.2.2 h6
  simp only [GRing.plus,if_pos h6,zun hp.2.2 lv lw sv sw]
 ·have hk:=GRing.ok_kind cv.1 h6
  simp only [GRing.plus,if_neg h6]
  exact zmg ⟨hk.1,hk.2.1⟩ (cv.2.1 h6) (cw.2.1 h6)
theorem zgo {r:GRing} {u v w:GW} (cu:u.chk r) (cv:v.chk r) (cw:w.chk r):r.plus (r.plus u v) w=r.plus u (r.plus v w):=by
 by_cases h6:r.kind=6
 ·have hp:=GRing.ok_parts cv.1 h6
  obtain ⟨lu,_,su⟩:=cu.2.2 h6
  obtain ⟨lv,_,sv⟩:=cv.2.2 h6
  obtain ⟨lw,_,sw⟩:=cw.2.2 h6
  simp only [GRing.plus,if_pos h6,GW.parts_mk]
  congr 1
  have luv:=zbn lu lv
  have lvw:=zbn lv lw
  refine List.ext_getElem (by rw [zbn luv lw,zbn lu lvw]) fun i h1 h2=>?_
  have h3:i<r.parts.length:=by rw [zbn luv lw] at h1; exact h1
  rw [zb2 h3 (by omega) (by omega) h1,zb2 h3 (by omega) (by omega) h2,zb2 h3 (by omega) (by omega) (by omega),zb2 h3 (by omega) (by omega) (by omega)]
  exact zkk (hp.2.2 _ (List.getElem_mem h3)) (su i h3 (by omega)) (sv i h3 (by omega)) (sw i h3 (by omega))
 ·have hk:=GRing.ok_kind cv.1 h6
  simp only [GRing.plus,if_neg h6]
  exact zkk ⟨hk.1,hk.2.1⟩ (cu.2.1 h6) (cv.2.1 h6) (cw.2.1 h6)
end Go.Ab
namespace Go.Ab
section
variable (r:GRing)
def wsum (ws:List GW):GW:=ws.foldr r.plus r.zero
variable {r} (hr:r.ok=true)
include hr in
theorem zhg:∀ {ws:List GW},(∀ w∈ws,w.chk r)->(wsum r ws).chk r
 | [],_=>zgl hr
 | w::ws,h=>znr (h w (by simp)) (zhg fun x hx=>h x (by simp [hx]))
include hr in
theorem zjy {v:GW} (hv:v.chk r):r.plus r.zero v=v:=by rw [zkj (zgl hr) hv]; exact zc9 hv
include hr in
theorem zj0:∀ {a b:List GW},(∀ w∈a,w.chk r)->(∀ w∈b,w.chk r)->wsum r (a++b)=r.plus (wsum r a) (wsum r b)
 | [],b,_,hb=>(zjy hr (zhg hr hb)).symm
 | w::a,b,ha,hb=>by
  show r.plus w (wsum r (a++b))=r.plus (r.plus w (wsum r a)) (wsum r b)
  rw [zj0 (fun x hx=>ha x (by simp [hx])) hb,zgo (ha w (by simp)) (zhg hr fun x hx=>ha x (by simp [hx])) (zhg hr hb)]
end
section
variable {α : Type} (key : α -> List Int) (wt : α -> GW) (r:GRing)
def atQ (l:List α) (p:List Int->Bool):GW:=wsum r ((l.filter fun x=>p (key x)).map wt)
variable {key wt r} {up : α -> α -> α} (hr:r.ok=true) (hk:∀ z y,key (up z y)=key z) (hw:∀ z y,wt (up z y)=r.plus (wt z) (wt y))
theorem zzv (p:List Int->Bool):atQ key wt r [] p=r.zero:=rfl
theorem zcu (x : α) (l:List α) (p:List Int->Bool):atQ key wt r (x::l) p=if p (key x)=true then r.plus (wt x) (atQ key wt r l p) else atQ key wt r l p:=by
 unfold atQ
 by_cases h:p (key x)=true<;>simp [h,wsum]
include hr in
theorem zr3 {l:List α} (h:∀ x∈l,(wt x).chk r) (p:List Int->Bool):(atQ key wt r l p).chk r:=zhg hr fun w hw=>by
 obtain ⟨x,hx,rfl⟩:=List.mem_map.1 hw
 exact h x (List.mem_filter.1 hx).1
include hr in
theorem zvq {a b:List α} (ha:∀ x∈a,(wt x).chk r) (hb:∀ x∈b,(wt x).chk r) (p:List Int->Bool):atQ key wt r (a++b) p=r.plus (atQ key wt r a p) (atQ key wt r b p):=by
 unfold atQ
 rw [List.filter_append,List.map_append]
 exact zj0 hr (fun w hw=>by obtain ⟨x,hx,rfl⟩:=List.mem_map.1 hw; exact ha x (List.mem_filter.1 hx).1) (fun w hw=>by obtain ⟨x,hx,rfl⟩:=List.mem_map.1 hw; exact hb x (List.mem_filter.1 hx).1)
include hr hk hw in
theorem zt9 {x : α} (hx:(wt x).chk r) (p:List Int->Bool):∀ {out:List α},(∀ z∈out,(wt z).chk r)->atQ key wt r (insF key up id out x) p=r.plus (atQ key wt r out p) (if p (key x)=true then wt x else r.zero)
 | [],_=>by
  show atQ key wt r [x] p=_
  rw [zcu,zzv,zjy hr (by split; exact hx; exact zgl hr)]
  split
  ·exact zc9 hx
  ·rfl
 | z::o,h=>by
  have hz:=h z (by simp)
  have ho:∀ y∈o,(wt y).chk r:=fun y hy=>h y (by simp [hy])
  have co:=zr3 (key:=key) hr ho p
  have ce:(if p (key x)=true then wt x else r.zero).chk r:=by split; exact hx; exact zgl hr
  simp only [insF]
  split
  ·rw [zcu,zcu,zt9 hx p ho]
   split
   ·rw [zgo hz co ce]
   ·rfl
  ·split
   ·rename_i h1 h2
    rw [zcu,zcu,hk,hw]
    by_cases h3:p (key z)=true
    ·rw [if_pos h3,if_pos h3,if_pos (h2 ▸ h3),zgo hz hx co,zgo hz co hx,zkj hx co]
    ·rw [if_neg h3,if_neg h3,if_neg (h2 ▸ h3),zc9 co]
   ·show atQ key wt r (x::z::o) p=_
    rw [zcu x]
    have cz:=zr3 (key:=key) hr h p
    split
    ·exact zkj hx cz
    ·exact (zc9 cz).symm
include hr hk hw in
theorem zzw {l:List α} (h:∀ x∈l,(wt x).chk r) (p:List Int->Bool):∀ n,n<=l.length->(∀ z∈nfm key up id (l.take n),(wt z).chk r)/\atQ key wt r (nfm key up id (l.take n)) p=atQ key wt r (l.take n) p
 | 0,_=>⟨by simp [nfm],rfl⟩
 | n+1,hn=>by
  obtain ⟨i1,i2⟩:=zzw h p n (by omega)
  have hl:n<l.length:=by omega
  have hx:=h _ (List.getElem_mem hl)
  rw [znw hl]
  refine ⟨fun z hz=>?_,?_⟩
  ·rcases zti hz with h1|h1|⟨y,h1,h2⟩
   ·exact i1 z h1
   ·rw [h1]; exact hx
   ·rw [h2,hw]; exact znr (i1 y h1) hx
  ·rw [zt9 hr hk hw hx p i1,i2,List.take_succ_eq_append_getElem hl,zvq hr (fun x hx=>h x (List.mem_of_mem_take hx)) (fun x hx=>by simp at hx; rw [hx]; exact h _ (List.getElem_mem hl)),zcu,zzv]
   congr 1
   split
   ·exact (zc9 hx).symm
   ·rfl
end
end Go.Ab
namespace Go.Ab
open Enc (enc)
end Go.Ab
namespace Go.Ab
open Enc (enc)
end Go.Ab
namespace Go.Ab
open Enc (enc)
def inT (x:GTArc) (t:GTrans):Prop:=0<=x.f/\x.f<t.st/\0<=x.t/\x.t<t.st/\0<=x.i/\x.i<=t.i/\0<=x.o/\x.o<=t.o/\x.w.chk t.ring
structure GTrans.ok (t:GTrans):Prop where
 ring:t.ring.ok=true
 i1:1<=t.i/\t.i<=32
 o1:1<=t.o/\t.o<=32
 st1:0<=t.st
 st2:t.st<=64
 il:(t.ini.length:Int)=t.st
 fl:(t.fin.length:Int)=t.st
 al:t.arcs.length<=2048
 arcs:∀ x∈t.arcs,inT x t
 ini:∀ w∈t.ini,w.chk t.ring
 fin:∀ w∈t.fin,w.chk t.ring
noncomputable instance (x:GTArc) (a:GTrans):Decidable (inT x a):=Classical.propDecidable _
noncomputable instance (a:GTrans):Decidable a.ok:=Classical.propDecidable _
structure GTrans.sm (a:GTrans) (n:Nat):Prop where
 ini:∀ w∈a.ini,w.sm n
 fin:∀ w∈a.fin,w.sm n
 arcs:∀ x∈a.arcs,x.w.sm n
end Go.Ab
namespace Go.Ab
open Enc (enc)
end Go.Ab
namespace Go.Ab
open Enc (enc)
end Go.Ab
namespace Go.Ab
open Enc (enc)
def swT (x:GTArc):GTArc:=⟨x.f,x.o,x.i,x.t,x.w⟩
end Go.Ab
