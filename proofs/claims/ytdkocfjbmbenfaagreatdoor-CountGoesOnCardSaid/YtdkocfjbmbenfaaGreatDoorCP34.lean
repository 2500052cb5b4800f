/-
Proofs for the law CountGoesOn, part 34. Conditions: none.
-/
import Derived.Test.YtdkocfjbmbenfaaGreatDoorCP26
import Derived.Test.YtdkocfjbmbenfaaGreatDoorCP22
import Derived.Test.YtdkocfjbmbenfaaGreatDoorCP12
import Derived.Test.YtdkocfjbmbenfaaGreatDoorCP27
import Derived.Test.YtdkocfjbmbenfaaGreatDoorCP33
import Derived.Test.YtdkocfjbmbenfaaGreatDoorCP24
import Derived.Test.YtdkocfjbmbenfaaGreatDoorCP29
set_option maxRecDepth 100000
set_option maxHeartbeats 4000000
set_option linter.all false
namespace Go.Ab
section
variable {α : Type} {key : α -> List Int}
def zgn (key : α -> List Int) (l:List α) (i:Nat):List α := srt key (l.take i)++l.drop i
theorem z5w (s:List α) (x : α):(insR key s x).length=s.length+1:=by
 induction s with
 | nil=>rfl
 | cons z r ih=>simp only [insR]; split<;>simp [ih]
theorem z5v {s:List α} {x y : α}:y∈insR key s x ↔ y=x\/y∈s:=by
 induction s with
 | nil=>simp [insR]
 | cons z r ih =>
  simp only [insR]; split
  ·simp
  ·simp only [List.mem_cons,ih]
   exact ⟨fun h=>by rcases h with h|h|h<;>simp [h],fun h=>by rcases h with h|h|h<;>simp [h]⟩
theorem zve (l:List α) (x : α):srt key (l++[x])=insR key (srt key l) x:=by simp [srt,List.foldl_append]
theorem zdg (l:List α):Srt key (srt key l)/\(srt key l).length=l.length/\∀ y,y∈srt key l ↔ y∈l:=by
 have:∀ (n:Nat) (l:List α),l.length=n->Srt key (srt key l)/\(srt key l).length=l.length/\∀ y,y∈srt key l ↔ y∈l:=by
  intro n
  induction n with
  | zero=>intro l hl; have:=List.eq_nil_of_length_eq_zero hl; subst this; simp [srt,Srt]
  | succ n ih =>
   intro l hl
   obtain ⟨l',y,rfl⟩:∃ l' y,l=l'++[y]:=⟨l.dropLast,l.getLast (by intro h; simp [h] at hl),(List.dropLast_concat_getLast _).symm⟩
   obtain ⟨h1,h2,h3⟩:=ih l' (by simpa using hl)
   rw [zve]
   refine ⟨zmh h1,by rw [z5w,h2]; simp,fun z=>?_⟩
   rw [z5v,h3]; simp [or_comm]
 exact this _ l rfl
theorem zxd (l:List α):zgn key l 1=l:=by cases l<;>simp [zgn,srt,insR]
theorem zzo {l:List α} {i:Nat} (h:l.length<=i):zgn key l i=srt key l:=by
 unfold zgn; rw [List.take_of_length_le h,List.drop_of_length_le h,List.append_nil]
theorem zzn {l:List α} {i:Nat} (h:i<l.length):zgn key l i=srt key (l.take i)++l[i]::l.drop (i+1):=by
 unfold zgn; rw [List.drop_eq_getElem_cons h]
theorem zlm {l:List α} {i:Nat} (h:i<l.length):zgn key l (i+1)=insR key (srt key (l.take i)) l[i]++l.drop (i+1):=by
 unfold zgn; rw [List.take_succ_eq_append_getElem h,zve]
theorem zt8 {x : α} {B:List α} (hB:∀ b∈B,key x<key b):∀ {A:List α},(∀ a∈A,¬ key x<key a)->insR key (A++B) x=A++x::B
 | [],_=>by
  cases B with
  | nil=>rfl
  | cons b B=>simp [insR,hB b (by simp)]
 | a::A,h=>by
  have:=zt8 hB (A:=A) fun y hy=>h y (by simp [hy])
  simp [insR,h a (by simp),this]
theorem zzc (A B:List α) (z x : α) (rest:List α):((A++[z]++x::(B++rest)).set (A.length+1) z).set A.length x=A++x::((z::B)++rest):=by
 simp [List.set_append,List.append_assoc]
end
end Go.Ab
namespace Go.Ab
section
variable {α : Type} {key : α -> List Int} {up : α -> α -> α} {nw : α -> α}
theorem z1d:∀ {out:List α} {x y : α},x∈mst key up nw out y->x∈out\/x=nw y\/∃ z∈out,x=up z y
 | [],x,y,h=>by simp [mst] at h; exact .inr (.inl h)
 | [z],x,y,h=>by
  simp only [mst] at h
  split at h
  ·simp at h; exact .inr (.inr ⟨z,by simp,h⟩)
  ·simp at h; rcases h with h|h
   ·exact .inl (by simp [h])
   ·exact .inr (.inl h)
 | z::w::r,x,y,h=>by
  rw [zl3 z y (by simp)] at h
  rcases List.mem_cons.1 h with h|h
  ·exact .inl (by simp [h])
  ·rcases z1d h with h|h|⟨u,h,e⟩
   ·exact .inl (List.mem_cons_of_mem _ h)
   ·exact .inr (.inl h)
   ·exact .inr (.inr ⟨u,List.mem_cons_of_mem _ h,e⟩)
theorem zp9:∀ {out:List α} {x y : α},x∈insF key up nw out y->x∈out\/x=nw y\/∃ z∈out,x=up z y
 | [],x,y,h=>by simp [insF] at h; exact .inr (.inl h)
 | z::r,x,y,h=>by
  simp only [insF] at h
  split at h
  ·rcases List.mem_cons.1 h with h|h
   ·exact .inl (by simp [h])
   ·rcases zp9 h with h|h|⟨u,h,e⟩
    ·exact .inl (List.mem_cons_of_mem _ h)
    ·exact .inr (.inl h)
    ·exact .inr (.inr ⟨u,List.mem_cons_of_mem _ h,e⟩)
  ·split at h
   ·rcases List.mem_cons.1 h with h|h
    ·exact .inr (.inr ⟨z,by simp,h⟩)
    ·exact .inl (List.mem_cons_of_mem _ h)
   ·rcases List.mem_cons.1 h with h|h
    ·exact .inr (.inl h)
    ·exact .inl h
theorem zn9 (out:List α) (y : α):(mst key up nw out y).length<=out.length+1:=by
 match out with
 | []=>simp [mst]
 | [z]=>simp only [mst]; split<;>simp
 | z::w::r =>
  rw [zl3 z y (by simp)]
  have:=zn9 (w::r) y
  simp only [List.length_cons] at this ⊢; omega
theorem zmi:∀ (out:List α) (y : α),(insF key up nw out y).length<=out.length+1
 | [],y=>by simp [insF]
 | z::r,y=>by
  simp only [insF]
  have:=zmi r y
  (repeat' split)<;>simp only [List.length_cons]<;>omega
theorem ziw {l:List α} {k:Nat} (h:k<l.length):mrg key up nw (l.take (k+1))=mst key up nw (mrg key up nw (l.take k)) l[k]:=by
 rw [List.take_succ_eq_append_getElem h,zv3]
theorem zfx {l:List α} {k:Nat} (h:k<l.length):nfm key up nw (l.take (k+1))=insF key up nw (nfm key up nw (l.take k)) l[k]:=by
 rw [List.take_succ_eq_append_getElem h]; unfold nfm; rw [List.foldl_append]; rfl
theorem zt2 {Q:Nat -> α -> Prop} (hm:∀ k x,Q k x->Q (k+1) x) {l:List α} (hn:∀ x∈l,Q 0 (nw x)) (hu:∀ k z,∀ x∈l,Q k z->Q (k+1) (up z x)) (h0:∀ k x,Q 0 x->Q k x) :
  ∀ k,k<=l.length->(mrg key up nw (l.take k)).length<=k/\∀ x∈mrg key up nw (l.take k),Q k x
 | 0,_=>by simp [mrg]
 | k+1,h=>by
  obtain ⟨i1,i2⟩:=zt2 hm hn hu h0 k (by omega)
  have hk:k<l.length:=by omega
  rw [ziw hk]
  refine ⟨Nat.le_trans (zn9 _ _) (by omega),fun x hx=>?_⟩
  rcases z1d hx with h|h|⟨z,h,e⟩
  ·exact hm _ _ (i2 x h)
  ·rw [h]; exact h0 _ _ (hn _ (List.getElem_mem hk))
  ·rw [e]; exact hu _ _ _ (List.getElem_mem hk) (i2 z h)
theorem z1a {Q:Nat -> α -> Prop} (hm:∀ k x,Q k x->Q (k+1) x) {l:List α} (hn:∀ x∈l,Q 0 (nw x)) (hu:∀ k z,∀ x∈l,Q k z->Q (k+1) (up z x)) (h0:∀ k x,Q 0 x->Q k x) :
  ∀ k,k<=l.length->(nfm key up nw (l.take k)).length<=k/\∀ x∈nfm key up nw (l.take k),Q k x
 | 0,_=>by simp [nfm]
 | k+1,h=>by
  obtain ⟨i1,i2⟩:=z1a hm hn hu h0 k (by omega)
  have hk:k<l.length:=by omega
  rw [zfx hk]
  refine ⟨Nat.le_trans (zmi _ _) (by omega),fun x hx=>?_⟩
  rcases zp9 hx with h|h|⟨z,h,e⟩
  ·exact hm _ _ (i2 x h)
  ·rw [h]; exact h0 _ _ (hn _ (List.getElem_mem hk))
  ·rw [e]; exact hu _ _ _ (List.getElem_mem hk) (i2 z h)
end
end Go.Ab
namespace Go.Ab
open Enc (enc)
attribute [local go_sem] zam Opd.slots
section
variable {α : Type} [Enc α]
theorem zp8 (hsz:Enc.sz α = 11) (hone:∀ x : α,(enc x).cells.all PV.one=true) (key : α -> List Int) (cf:FuncId) (l:List α) (hl:l.length<=1000000)
  (hc:∀ x∈l,∀ y∈l,∃ n:Int,Sp P cf [enc x,enc y] (.pure (.int .i64 n))/\(n<0 ↔ key x<key y)) :
  SpM P F.ip [.sl (ens l),.int .i64 0,.int .i64 l.length,.fn cf []] 0 11 (ens (srt key l)) (.pure (.tup [])):=by
 have hs1:∀ x : α,(enc x).sz=11:=fun x=>by rw [Enc.ok,hsz]
 have ew1:IntKind.i64.wrap 1=1:=i64w (by omega) (by omega)
 refine SpM.of_vm c.ip (by simp) rfl (by simp [go_sem,(zdg l).2.1]) ?_
 simp [g.ip,go_sem]
 refine zai (S:=fun i:Nat=>mkSt [(0,.own PIN 0 0 l.length),(1,.p (.int .i64 0)),(2,.p (.int .i64 l.length)),(3,.p (.fn cf [])),(8,.p (.int .i64 i))] [(PIN,⟨11,avs (zgn key l i)⟩)]) (I:=fun i=>1<=i) (m:=fun i=>l.length+1 - i) 1
  (Weak.to [0,1,2,3,8] [((PIN,0),PIN)] (by simp [go_sem,zxd,ew1])) (by omega) ?_
 rintro i h1 R hn hr hx
 simp [g.sb,mkSt,go_sem]
 refine ⟨fun hi=>?_,fun hi=>hx _ _ ?_⟩
 rotate_left
 ·simp [go_sem,zzo hi]
 have e1:=i64s i (by omega)
 have hsi:=zdg (key:=key) (l.take i)
 have hsl:(srt key (l.take i)).length=i:=by rw [hsi.2.1]; simp; omega
 have hend:∀ (L:List α) (v:AV),L=zgn key l (i+1)->v=.p (.int .i64 ((i+1:Nat):Int))->R .normal ⟨[(0,.own 999998 0 0 l.length),(1,.p (.int .i64 0)),(2,.p (.int .i64 l.length)),(3,.p (.fn cf [])),(8,v)],[(999998,[some ⟨11,avs L⟩]),(999999,[none])]⟩:=by
  rintro L v rfl rfl
  exact hn (i+1) _ (Weak.to [0,1,2,3,8] [((PIN,0),PIN)] (by simp [go_sem])) (by omega) (by omega)
 refine zai (S:=fun x:List α × Nat=>mkSt [(0,.own PIN 0 0 l.length),(1,.p (.int .i64 0)),(2,.p (.int .i64 l.length)),(3,.p (.fn cf [])),(8,.p (.int .i64 i)),(9,.p (.int .i64 x.2))] [(PIN,⟨11,avs x.1⟩)])
  (I:=fun x=>∃ A B,x.1=A++l[i]::(B++l.drop (i+1))/\x.2=A.length/\A++B=srt key (l.take i)/\∀ b∈B,key l[i]<key b) (m:=fun x=>x.2) (zgn key l i,i)
  (Weak.to [0,1,2,3,8,9] [((PIN,0),PIN)] (by simp [go_sem])) ⟨srt key (l.take i),[],by rw [zzn hi]; simp,hsl.symm,by simp,by simp⟩ ?_
 rintro ⟨L,j⟩ ⟨A,B,hL,hj,hAB,hB⟩ R2 hn2 hr2 hx2
 simp only at hL hj
 have hLl:L.length=l.length:=by
  have:=congrArg List.length hAB
  rw [hL]; simp at this ⊢; rw [hsi.2.1] at this; simp at this; omega
 have hLm:∀ y∈L,y∈l:=by
  intro y hy
  rw [hL] at hy
  simp only [List.mem_append,List.mem_cons] at hy
  have hm:∀ y,y∈A++B->y∈l:=fun y hy=>by rw [hAB,hsi.2.2] at hy; exact List.mem_of_mem_take hy
  rcases hy with h|h|h|h
  ·exact hm y (by simp [h])
  ·rw [h]; exact List.getElem_mem hi
  ·exact hm y (by simp [h])
  ·exact List.mem_of_mem_drop h
 have hjl:j<l.length:=by rw [<- hLl,hL,hj]; simp
 rcases List.eq_nil_or_concat A with rfl|⟨A',z,rfl⟩
 ·
  simp at hj
  subst hj
  simp [g.pa,mkSt,go_sem]
  refine hx2 _ _ ?_
  simp [go_sem,e1]
  refine hend L _ ?_ rfl
  rw [zlm hi,<- hAB,zt8 hB (by simp),hL]; simp
 ·simp only [List.concat_eq_append] at hj hL hAB
  simp at hj
  subst hj
  have hx0:L[A'.length+1]?=some l[i]:=by rw [hL]; simp
  have hz0:L[A'.length]?=some z:=by rw [hL]; simp
  have hzl:z∈l:=hLm z (by rw [hL]; simp)
  obtain ⟨n,hn3,hn4⟩:=hc l[i] (List.getElem_mem hi) z hzl
  have hl0:A'.length+1<l.length:=hjl
  have e3:IntKind.i64.wrap (A'.length:Int)=(A'.length:Nat):=i64w (by omega) (by omega)
  have e4:((A'.length:Int)+1).toNat=A'.length+1:=by omega
  have hgt:(0:Int)<(A'.length:Int)+1:=by omega
  simp [g.pa,mkSt,go_sem,e3,hLl,hl0,show A'.length<l.length by omega,e4,hgt]
  refine ⟨by omega,zkn hx0 ?_⟩
  refine zkn hz0 ?_
  refine zaa hn3 rfl ?_
  by_cases hlt:n<0
  ·simp [go_sem,hlt,e3,e4,hgt,hLl,hl0,show A'.length<l.length by omega]
   refine zkn hz0 ?_
   refine ⟨by omega,zkn hx0 ?_⟩
   refine ⟨by omega,zkn hx0 ?_⟩
   refine ⟨hs1 z,?_⟩
   rw [zgf]
   refine zkn (x:=.p (enc z)) (by simp [yau,hz0]) ?_
   simp only [ybo]
   refine ⟨hs1 _,?_⟩
   simp [go_sem,e3]
   refine hn2 ((L.set (A'.length+1) z).set A'.length l[i],A'.length) _ (Weak.to [0,1,2,3,8,9] [((PIN,0),PIN)] (by simp [go_sem])) ⟨A',z::B,?_,rfl,?_,?_⟩ (by simp)
   ·rw [hL]; exact zzc A' B z l[i] _
   ·rw [<- hAB]; simp
   ·intro b hb
    rcases List.mem_cons.1 hb with rfl|hb
    ·exact hn4.1 hlt
    ·exact hB b hb
  ·simp [go_sem,hlt,e3,e4,hgt,hLl,hl0]
   refine hx2 _ _ ?_
   simp [go_sem,e1]
   refine hend L _ ?_ rfl
   have hnk:¬ key l[i]<key z:=fun h=>hlt (hn4.2 h)
   rw [zlm hi,<- hAB,zt8 hB,hL]
   ·simp
   ·intro a ha
    simp only [List.mem_append,List.mem_singleton] at ha
    rcases ha with ha|rfl
    ·intro hk
     have hs0:=hsi.1
     rw [<- hAB] at hs0
     have:=(List.pairwise_append.1 (List.pairwise_append.1 hs0).1).2.2 a ha z (by simp)
     exact hnk (zmf hk this)
    ·exact hnk
end
end Go.Ab
namespace Go.Ab
open Enc (enc)
attribute [local go_sem] zam Opd.slots
section
variable {α : Type} [Enc α]
theorem znc (hsz:Enc.sz α = 11) (hone:∀ x : α,(enc x).cells.all PV.one=true) (key : α -> List Int) (cf:FuncId) (l:List α) (hl:l.length<=19)
  (hc:∀ x∈l,∀ y∈l,∃ n:Int,Sp P cf [enc x,enc y] (.pure (.int .i64 n))/\(n<0 ↔ key x<key y)) :
  SpM P F.lg [.sl (ens l),.int .i64 l.length,.fn cf []] 0 11 (ens (srt key l)) (.pure (.tup [])):=by
 refine SpM.of_vm c.lg (by simp) rfl (by simp [go_sem,(zdg l).2.1]) ?_
 simp [g.lg,go_sem]
 refine zhr fun R hn hr hx=>?_
 simp [g.ru,go_sem,show ¬ (20<=(l.length:Int)) by omega]
 refine hx _ _ ?_
 simp [go_sem]
 refine zfo (zp8 hsz hone key cf l (by omega) hc) (by simp [go_sem]) rfl rfl (by simp) (by simp [go_sem]) (by simp [go_sem,(zdg l).2.1]) rfl (zgb _ _ hsz) (cells_one hone _) (by simp [go_sem]) ?_
 simp [go_sem]
 refine zhr fun R2 hn2 hr2 hx2=>?_
 simp [g.rv,go_sem,show ¬ (20<(l.length:Int)) by omega]
 refine hx2 _ _ ?_
 simp [go_sem]
theorem zo8 (hsz:Enc.sz α = 11) (hone:∀ x : α,(enc x).cells.all PV.one=true) (key : α -> List Int) (cf:FuncId) (l:List α) (hl:l.length<=19)
  (hc:∀ x∈l,∀ y∈l,∃ n:Int,Sp P cf [enc x,enc y] (.pure (.int .i64 n))/\(n<0 ↔ key x<key y)) :
  SpM P F.ko [.sl (ens l),.fn cf []] 0 11 (ens (srt key l)) (.pure (.tup [])):=by
 refine SpM.of_vm c.ko (by simp) rfl (by simp [go_sem,(zdg l).2.1]) ?_
 simp [g.ko,go_sem]
 refine zfo (znc hsz hone key cf l hl hc) (by simp [go_sem]) rfl rfl (by simp) (by simp [go_sem]) (by simp [go_sem,(zdg l).2.1]) rfl (zgb _ _ hsz) (cells_one hone _) (by simp [go_sem]) ?_
 simp [go_sem]
end
end Go.Ab
namespace Go.Ab
open Enc (enc)
attribute [local go_sem] zam Opd.slots
def gw0':GW:=.mk ⟨false,[],[]⟩ 0 false 0 [] []
theorem zso (df:FuncId) (caps:List PV) (p:GArc->Bool) (l:List GArc) (hl:l.length<=1000000) (hp:∀ x∈l,Sp P df (enc x::caps) (.pure (.bool (p x)))) :
  SpM P F.kq [.sl (ens l),.fn df caps] 0 11 (ens (l.filter (fun x => !p x)++List.replicate (l.length - (l.filter fun x => !p x).length) (⟨0,0,0,gw0'⟩:GArc))) (.same (l.filter fun x => !p x).length):=by
 have hfl:(l.filter fun x => !p x).length<=l.length:=List.length_filter_le _ _
 refine SpM.of_vm c.kq (by simp) rfl (by simp [go_sem]; omega) ?_
 simp [g.kq,go_sem]
 refine zab (zke l df caps p (by omega) hp) ?_
 cases hi:l.findIdx? p with
 | none =>
  have hn:=List.findIdx?_eq_none_iff.1 hi
  have hf:l.filter (fun x => !p x)=l:=List.filter_eq_self.2 fun x hx=>by simp [hn x hx]
  have hx:idxI p l = -1:=by simp [idxI,hi]
  simp [hx,hf,go_sem]
 | some k =>
  obtain ⟨hk,hpk,hbef⟩:=List.findIdx?_eq_some_iff_getElem.1 hi
  have hx:idxI p l=k:=by simp [idxI,hi]
  have hne:¬ ((k:Int) = -1):=by omega
  have e1:=i64s k (by omega)
  simp [hx,hne,e1,go_sem]
  have htk:(l.take k).filter (fun x => !p x)=l.take k:=List.filter_eq_self.2 fun x hx=>by
   rw [List.mem_take_iff_getElem] at hx
   obtain ⟨i,hi,rfl⟩:=hx
   have:=hbef i (by omega)
   simpa using this
  have htk1:(l.take (k+1)).filter (fun x => !p x)=l.take k:=by
   rw [List.take_succ_eq_append_getElem hk,List.filter_append,htk]; simp [hpk]
  refine zai (S:=fun x:List GArc × Nat × Nat=>mkSt [(0,.own PIN 0 0 l.length),(1,.p (.fn df caps)),(5,.p (.int .i64 x.2.1)),(6,.p (.int .i64 x.2.2))] [(PIN,⟨11,avs x.1⟩)])
   (I:=fun x=>x.1.length=l.length/\x.2.1<x.2.2/\x.2.2<=l.length/\x.1.take x.2.1=(l.take x.2.2).filter (fun x => !p x)/\x.1.drop x.2.2=l.drop x.2.2/\x.2.1<=l.length) (m:=fun x=>l.length - x.2.2) (l,k,k+1)
   (Weak.to [0,1,5,6] [((PIN,0),PIN)] (by simp [go_sem])) ⟨rfl,by simp,by simp; omega,by rw [htk1],rfl,by simp; omega⟩ ?_
  rintro ⟨L,i,j⟩ ⟨h1,h2,h3,h4,h5,h6⟩ R hn hr hx2
  simp only at h1 h2 h3 h4 h5 h6
  simp [g.ri,mkSt,go_sem]
  refine ⟨fun hj=>?_,fun hj=>hx2 _ _ ?_⟩
  ·have e2:=i64s j (by omega)
   have e3:=i64s i (by omega)
   have hjL:L[j]?=some l[j]:=by
    have:(L.drop j)[0]?=(l.drop j)[0]?:=by rw [h5]
    simpa [hj] using this
   refine ⟨by omega,zkn hjL ?_⟩
   try simp [go_sem]
   refine zaa (hp l[j] (List.getElem_mem hj)) (zb1 (by simp [go_sem]) (zfz _ _)) ?_
   have htj:(l.take (j+1)).filter (fun x => !p x)=(l.take j).filter (fun x => !p x)++(if p l[j] then [] else [l[j]]):=by
    rw [List.take_succ_eq_append_getElem hj,List.filter_append]
    by_cases h:p l[j]<;>simp [h]
   rcases Bool.eq_false_or_eq_true (p l[j]) with h7|h7
   ·simp [h7,e2,go_sem]
    refine hn (L,i,j+1) _ (Weak.to [0,1,5,6] [((PIN,0),PIN)] (by simp [go_sem])) ⟨h1,by show i<j+1; omega,by show j+1<=l.length; omega,by show L.take i=_; rw [htj,h4]; simp [h7],?_,h6⟩ (by show l.length - (j+1)<l.length - j; omega)
    show L.drop (j+1)=l.drop (j+1)
    rw [<- List.drop_drop,h5,List.drop_drop]
   ·simp [h7,go_sem]
    refine ⟨by omega,?_⟩
    refine zkn (l:=L) (n:=i) (x:=L[i]'(by omega)) (by simp) ?_
    simp [e2,e3,go_sem]
    have htki:(L.set i l[j]).take (i+1)=L.take i++[l[j]]:=by
     rw [List.take_succ_eq_append_getElem (by simp; omega),List.take_set_of_le (Nat.le_refl i)]
     simp
    refine hn (L.set i l[j],i+1,j+1) _ (Weak.to [0,1,5,6] [((PIN,0),PIN)] (by simp [go_sem])) ⟨by simp [h1],by show i+1<j+1; omega,by show j+1<=l.length; omega,by show (L.set i l[j]).take (i+1)=_; rw [htki,htj,h4]; simp [h7],?_,by show i+1<=l.length; omega⟩ (by show l.length - (j+1)<l.length - j; omega)
    show (L.set i l[j]).drop (j+1)=l.drop (j+1)
    rw [List.drop_set_of_lt (by omega),<- List.drop_drop,h5,List.drop_drop]
  ·have hjl:j=l.length:=by omega
   subst hjl
   rw [List.take_length] at h4
   have hil:i=(l.filter fun x => !p x).length:=by rw [<- h4]; simp; omega
   generalize (l.filter fun x => !p x)=D at *
   subst hil
   have ht:(avs L).take D.length=avs D:=by rw [zw4,h4]
   have hm1:min D.length l.length=D.length:=Nat.min_eq_left h6
   have hm2:D.length+(l.length - D.length)=l.length:=by omega
   simp [go_sem,h1,h6,hm1,hm2,h4]
   have hdl:L.drop l.length=[]:=by rw [<- h1]; simp
   rw [hdl,yat,List.append_nil]
   rfl
end Go.Ab
namespace Go.Ab
open Enc (enc)
@[go_sem] theorem ybp {P:Program} {N:Nat} {Q:Exit->St->Prop} {α : Type} [Enc α] (o:List α) (x:AV) (f:AV->Outc) (d:Option Nat) (dd:List (List Nat)) (ks:List Kt):vmO P N Q (.el (avs o++[x]) o.length f) d dd ks=vmO P N Q (f x) d dd ks:=by
 have:(avs o++[x])[o.length]?=some x:=by rw [List.getElem?_append_right (by simp [go_sem])]; simp [go_sem]
 simp only [vmO,runO,this]
 exact propext ⟨fun ⟨e,h,k⟩=>by cases h; exact k,fun k=>⟨_,rfl,k⟩⟩
@[go_sem] theorem yd8 {α : Type} [Enc α] (o:List α) (x y:AV):(avs o++[x]).set o.length y=avs o++[y]:=by
 rw [List.set_append_right _ _ (by simp [go_sem])]; simp [go_sem]
theorem z4g {α : Type} [Enc α] (l:List α) (r:List α):((ens (l++r)).map AV.p).take l.length=avs l:=by simp [avs,ens]
theorem zkl {st:St} {f:FuncId} {e:Nat} {vs:List AV} {args:List PV} {sz:Nat} {es:List PV} {K:PCall->AV->St->Prop} (hs:Sp P f args (.fresh sz es)) (hv:vs.mapM (toPV st FUEL)=some args)
  (h:es.all (fun v=>v.sz == sz)=true/\0<sz/\es.length<=LIM) (h0:vs.flatMap (deps st FUEL)=[])
  (k:K ⟨f,args,.fresh sz es,none⟩ (.own e (st.site e).length 0 es.length) (st.alloc e ⟨sz,es.map .p⟩)):zg8 P st e f vs K :=
 zf8 hs hv h st (by rw [h0]; simp [killAll]) k
theorem zyg {st:St} {f:FuncId} {e:Nat} {vs:List AV} {args:List PV} {i sz:Nat} {es':List PV} {r:PV} {K:PCall->AV->St->Prop} (hs:SpM P f args i sz es' (.pure r)) (hv:vs.mapM (toPV st FUEL)=some args)
  {s g len:Nat} {sl:Bool} (href:zj7 vs[i]?=some (s,g,len,sl)) {o:AObj} (ho:st.obj s g=some o) (hi:i<vs.length) (hl:len=o.es.length) (hl2:es'.length=len) (hsz:o.sz=sz) (hall:es'.all (fun v=>v.sz == sz)=true) (hone:(es'.flatMap PV.cells).all PV.one=true)
  (h0:(vs.eraseIdx i).flatMap (deps st FUEL)++o.es.flatMap (deps st 5)=[])
  (k:K ⟨f,args,.pure r,some (i,sz,es')⟩ (.p r) (st.setObj s g ⟨sz,es'.map .p⟩)):zg8 P st e f vs K:=by
 refine zfo hs hv href ho hi hl hl2 hsz hall hone (by rw [h0]; rfl) ?_
 rw [h0]
 simpa [killAll] using k
theorem zy9 (x:GArc) (r:GRing) (hw:x.w.sm 1048576):Sp P F.gv [enc x,.ref (enc r)] (.pure (.bool (decide (x.w=r.zero)))):=by
 refine Sp.of_vmW c.gv (by simp) (Weak.openRef (t:=1) (v:=enc r) (n:=2) (by simp [go_sem]) (by simp [go_sem])) ?_
 simp [g.gv,go_sem]
 refine zab (zxx r x.w hw) ?_
 simp [go_sem]
def upA (r:GRing) (z y:GArc):GArc:=⟨z.f,z.l,z.t,r.plus z.w y.w⟩
noncomputable def tidA (r:GRing) (l:List GArc):List GArc:=(mrg GArc.key (upA r) id (srt GArc.key l)).filter fun x => !decide (x.w=r.zero)
theorem zza {r:GRing} {n:Nat} (hn1:1<=n) {l:List GArc} (h:∀ x∈l,x.w.sm n/\x.w.chk r) (k:Nat) (hk:k<=l.length) :
  (mrg GArc.key (upA r) id (l.take k)).length<=k/\∀ x∈mrg GArc.key (upA r) id (l.take k),x.w.sm ((k+1)*(n+1))/\x.w.chk r:=by
 refine zt2 (up:=upA r) (nw:=id) (Q:=fun k x=>x.w.sm ((k+1)*(n+1))/\x.w.chk r) (fun k x hx=>⟨hx.1.mono (Nat.mul_le_mul_right _ (by omega)),hx.2⟩) (fun x hx=>⟨(h x hx).1.mono (by omega),(h x hx).2⟩) (fun k z x hx hz=>⟨?_,(zhd hz.2 (h x hx).2:(r.plus z.w x.w).chk r)⟩) (fun k x hx=>⟨hx.1.mono (Nat.mul_le_mul_right _ (by omega)),hx.2⟩) k hk
 have:=z0k hz.1 (h x hx).1 hz.2 (h x hx).2 (Nat.le_trans hn1 (by rw [Nat.add_mul]; omega)) hn1
 have e:(k+1)*(n+1)+n+1=(k+1+1)*(n+1):=by rw [Nat.add_mul (k+1) 1]; omega
 rw [<- e]; exact this
theorem z4e (r:GRing) (l:List GArc) (n:Nat) (hn:n<=90) (hn1:3<=n) (hl:l.length<=19) (h:∀ x∈l,x.w.sm n/\x.w.chk r) :
  Sp P F.j7 [enc r,.sl (ens l)] (.pure (.sl (ens (tidA r l)))):=by
 have hs:=zdg (key:=GArc.key) l
 have h':∀ x∈srt GArc.key l,x.w.sm n/\x.w.chk r:=fun x hx=>h x ((hs.2.2 x).1 hx)
 have inv:=zza (by omega) h'
 unfold tidA
 generalize hS:srt GArc.key l=S at *
 have hSl:S.length=l.length:=hs.2.1
 have hone:∀ x:GArc,(enc x).cells.all PV.one=true:=fun x=>by simp [go_sem,PV.cells]
 refine Sp.vz c.j7 fun _=>?_
 simp [g.j7,go_sem]
 refine zkl (zqk l (by omega)) (by simp [go_sem]) ⟨zgb _ _ rfl,by decide,by simp [ens,LIM]; omega⟩ (by simp [go_sem]) ?_
 simp [go_sem]
 refine zyg (zo8 rfl hone GArc.key F.bz l hl fun x hx y hy=>⟨_,zn4 x y,zt5 rfl⟩) (by simp [go_sem]) rfl rfl (by simp) (by simp [go_sem]) (by simp [go_sem,hS,hSl]) rfl (zgb _ _ rfl) (cells_one hone _) (by simp [go_sem]) ?_
 simp [go_sem]
 rw [hS]
 have hone':3<=n+1:=by omega
 refine zai (S:=fun k:Nat=>mkSt [(2,.ptr 2 0 0 0),(6,.own 1 0 0 (mrg GArc.key (upA r) id (S.take k)).length),(14,.own 3 0 0 S.length),(15,.p (.int .i64 S.length)),(16,.p (.int .i64 k))] [(2,⟨2,[.p (enc r)]⟩),(1,⟨11,avs (mrg GArc.key (upA r) id (S.take k))⟩),(3,⟨11,avs S⟩)]) (I:=fun k=>k<=S.length) (m:=fun k=>S.length - k) 0
  (Weak.nl 6 77 11 rfl (Weak.to [2,6,14,15,16] [((2,0),2),((77,0),1),((11,0),3)] (by simp [go_sem,hSl,mrg]))) (by omega) ?_
 rintro k h1 R hn' hr hx
 have e3:=i64s k (by omega)
 obtain ⟨iv1,iv2⟩:=inv k h1
 generalize hO:mrg GArc.key (upA r) id (S.take k)=O at *
 by_cases hk:k<S.length
 rotate_left
 ·have:k=S.length:=by omega
  subst this
  rw [List.take_of_length_le (Nat.le_refl _)] at hO
  rw [hO] at hx hr
  have hb:(O.length+1)*(n+1)<=1048576:=by
   have:=Nat.mul_le_mul (show O.length+1<=20 by omega) (show n+1<=91 by omega)
   omega
  have hb2:(S.length+1)*(n+1)<=1048576:=by
   have:=Nat.mul_le_mul (show S.length+1<=20 by omega) (show n+1<=91 by omega)
   omega
  simp [g.nr,mkSt,go_sem]
  refine hx _ _ ?_
  simp [go_sem]
  refine zyf (zso F.gv [.ref (enc r)] (fun x=>decide (x.w=r.zero)) O (by omega) fun x hx=>zy9 x r ((iv2 x hx).1.mono hb2)) (by simp [go_sem,zii,zo3]) rfl rfl (by simp) (by simp [go_sem]) (by simp [go_sem]; have:=List.length_filter_le (fun x:GArc => !decide (x.w=r.zero)) O; omega) rfl (zgb _ _ rfl) (cells_one hone _) (by simp [go_sem]) (List.length_filter_le _ _) ?_
  generalize hF:O.filter (fun x => !decide (x.w=r.zero))=F0 at *
  have hFl:F0.length<=O.length:=by rw [<- hF]; exact List.length_filter_le _ _
  have hA1:=z4g F0 (List.replicate (O.length - F0.length) (⟨0,0,0,gw0'⟩:GArc))
  have hA2:F0.length<=(ens (F0++List.replicate (O.length - F0.length) (⟨0,0,0,gw0'⟩:GArc))).length:=by simp [ens]
  generalize ens (F0++List.replicate (O.length - F0.length) (⟨0,0,0,gw0'⟩:GArc))=A0 at *
  cases hfl:A0.all PV.flat
  ·simp [go_sem,killAll]
   rw [hA1]; simp [go_sem,hA2]
  ·simp [go_sem,killAll]
   rw [hA1]; simp [go_sem,hA2]
 have hw:=h' _ (List.getElem_mem hk)
 have hnx:=ziw (key:=GArc.key) (up:=upA r) (nw:=id) hk
 rw [hO] at hnx
 have cz:=zer hw.2.1
 have sz:=zyn (n:=n) hw.2.1 hn1
 have pz:=zdi hw.2
 rcases List.eq_nil_or_concat O with rfl|⟨o,z,rfl⟩
 ·simp [g.nr,mkSt,go_sem,hk]
  refine zae hk ?_
  refine zaa (zg9 r) rfl ?_
  simp [go_sem]
  refine zab (zk0 r S[k].w r.zero n hw.1 sz (by omega) (by omega) hw.2 cz) ?_
  rw [pz]
  simp [go_sem,e3]
  refine hn' (k+1) _ (Weak.to [2,6,14,15,16] [((2,0),2),((59,0),1),((3,0),3)] ?_) (by omega) (by omega)
  rw [hnx]
  simp [mkSt,go_sem,mst]
 ·have e4:IntKind.i64.wrap (o.length:Int)=(o.length:Int):=i64w (by omega) (by simp at iv1; omega)
  simp [g.nr,mkSt,go_sem,hk,e4]
  refine zae hk ?_
  refine zab (zn4 z S[k]) ?_
  simp [go_sem,e4]
  have hz:=iv2 z (by simp)
  have hb2:(k+1)*(n+1)<=2000:=by
   have:=Nat.mul_le_mul (show k+1<=20 by omega) (show n+1<=91 by omega)
   omega
  have hb3:n<=(k+1)*(n+1):=by rw [Nat.add_mul]; omega
  have hle:lexI z.key S[k].key=0 ↔ z.key=S[k].key:=zt6 (by simp [GArc.key])
  refine ⟨fun h0=>?_,fun h0=>?_⟩
  ·rw [List.concat_eq_append,zt1 (key:=GArc.key) (z:=z) (y:=S[k]) (hle.1 h0)] at hnx
   refine zab (zk0 r z.w S[k].w _ hz.1 (hw.1.mono hb3) hb2 (by omega) hz.2 hw.2) ?_
   simp [go_sem,e3,e4]
   refine hn' (k+1) _ (Weak.to [2,6,14,15,16] [((2,0),2),((1,0),1),((3,0),3)] ?_) (by omega) (by omega)
   rw [hnx]
   simp [mkSt,go_sem,upA]
  ·rw [List.concat_eq_append,zpr (key:=GArc.key) (z:=z) (y:=S[k]) (fun h=>h0 (hle.2 h))] at hnx
   refine zaa (zg9 r) rfl ?_
   simp [go_sem]
   refine zab (zk0 r S[k].w r.zero n hw.1 sz (by omega) (by omega) hw.2 cz) ?_
   rw [pz]
   simp [go_sem,e3]
   refine ⟨by simp at iv1; omega,hn' (k+1) _ (Weak.to [2,6,14,15,16] [((2,0),2),((59,0),1),((3,0),3)] ?_) (by omega) (by omega)⟩
   rw [hnx]
   simp [mkSt,go_sem,upA]
end Go.Ab
namespace Go.Ab
open Enc (enc)
structure GAuto.ok (a:GAuto):Prop where
 ring:a.ring.ok=true
 sy1:1<=a.sy
 sy2:a.sy<=32
 st1:0<=a.st
 st2:a.st<=64
 il:(a.ini.length:Int)=a.st
 fl:(a.fin.length:Int)=a.st
 al:a.arcs.length<=2048
 arcs:∀ x∈a.arcs,inA x a
 ini:∀ w∈a.ini,w.chk a.ring
 fin:∀ w∈a.fin,w.chk a.ring
theorem yax {r:GRing} {l:List GW}:(!l.any fun w => !decide (w.chk r))=true ↔ ∀ w∈l,w.chk r:=by
 simp
theorem GAuto.vb_iff {a:GAuto}:a.vb=true ↔ a.ok:=by
 unfold GAuto.vb
 simp only [Bool.and_eq_true,decide_eq_true_eq,yax]
 constructor
 ·rintro ⟨h1,h2,h3,h4,h5,h6,h7,h8,h9,h10,h11⟩
  exact ⟨h1,h2,h3,h4,h5,h6,h7,h8,fun x hx=>by simpa using (by simpa using h9:∀ x∈a.arcs,inA x a) x hx,h10,h11⟩
 ·rintro ⟨h1,h2,h3,h4,h5,h6,h7,h8,h9,h10,h11⟩
  exact ⟨h1,h2,h3,h4,h5,h6,h7,h8,by simpa using h9,h10,h11⟩
def zwo:GAuto:=⟨⟨0,[]⟩,0,0,[],[],[]⟩
noncomputable def GAuto.nf (a:GAuto):GAuto:=⟨a.ring,a.sy,a.st,a.ini,a.fin,tidA a.ring a.arcs⟩
theorem GAuto.sm.mono {a:GAuto} {m n:Nat} (h:a.sm m) (k:m<=n):a.sm n:=⟨fun w hw=>(h.ini w hw).mono k,fun w hw=>(h.fin w hw).mono k,fun x hx=>(h.arcs x hx).mono k⟩
theorem yan {r:GRing} {l:List GW} (h:∀ w∈l,w.chk r):(l.map fun w=>r.plus w r.zero)=l:=by
 have:(l.map fun w=>r.plus w r.zero)=l.map id:=List.map_congr_left fun w hw=>zdi (h w hw)
 rw [this,List.map_id]
theorem z9n {r:GRing} (h:r.ok=true):r.parts.length<=3:=by
 by_cases h6:r.kind=6
 ·exact (GRing.ok_parts h h6).2.1
 ·simp [(GRing.ok_kind h h6).2.2]
theorem zwz (r:GRing) (l:List GW) (n:Nat) (hn:n<=90) (hn1:3<=n) (hr:r.ok=true) (hl:l.length<=64) (h:∀ w∈l,w.sm n) (c:∀ w∈l,w.chk r):Sp P F.go [enc r,.sl (ens l)] (.pure (.sl (ens l))):=by
 have k:=z6z r l n (by omega) (by omega) (by omega) (fun w hw=>⟨h w hw,c w hw⟩) (zyn hr hn1) (zer hr)
 rwa [yan c] at k
theorem zxn (a:GAuto) (n:Nat) (hn:n<=90) (hn1:3<=n) (h:a.sm n) (hl:a.arcs.length<=19) :
  Sp P F.jw [enc a] (.pure (.tup [enc (if a.vb then a.nf else zwo),.int .i64 (if a.vb then 0 else 4)])):=by
 refine Sp.vz c.jw fun _=>?_
 simp [g.jw,go_sem]
 refine zab (zyu a (h.mono (by omega))) ?_
 cases hv:a.vb
 ·simp [go_sem,zwo]
 have ok:=GAuto.vb_iff.1 hv
 have i1:=ok.il; have i2:=ok.fl; have i3:=ok.st2
 simp [go_sem]
 refine zab (z4z a.ring (by have:=z9n ok.ring; omega)) ?_
 simp [go_sem]
 refine zab (zwz a.ring a.ini n hn hn1 ok.ring (by omega) h.ini ok.ini) ?_
 simp [go_sem]
 refine zab (zwz a.ring a.fin n hn hn1 ok.ring (by omega) h.fin ok.fin) ?_
 simp [go_sem]
 refine zab (z4e a.ring a.arcs n hn hn1 hl fun x hx=>⟨h.arcs x hx,(ok.arcs x hx).2.2.2.2.2.2⟩) ?_
 simp [go_sem,GAuto.nf]
end Go.Ab
namespace Go.Ab
open Enc (enc)
structure GView where
 a:GAuto
 first:List Int
instance:Enc GView:=⟨fun x=>.agg [.int .i64 x.a.ring.kind,.sl (ens x.a.ring.parts),.int .i64 x.a.sy,.int .i64 x.a.st,.sl (ens x.a.ini),.sl (ens x.a.fin),.sl (ens x.a.arcs),.sl (ens x.first)],8,by decide,fun _=>rfl⟩
@[go_sem] theorem yef (x:GView):enc x=.agg [.int .i64 x.a.ring.kind,.sl (ens x.a.ring.parts),.int .i64 x.a.sy,.int .i64 x.a.st,.sl (ens x.a.ini),.sl (ens x.a.fin),.sl (ens x.a.arcs),.sl (ens x.first)]:=rfl
@[go_sem] theorem ya6:Enc.sz GView=8:=rfl
theorem zu3 (v:GView) (w:GW) (hw:w.sm 1048576):Sp P F.gh [enc v,enc w] (.pure (.bool (decide (w=v.a.ring.zero)))):=by
 refine Sp.vz c.gh fun _=>?_
 simp [g.gh,go_sem]
 refine zab (zg9 v.a.ring) ?_
 simp [go_sem]
 refine zab (zdp w hw v.a.ring.zero) ?_
 simp [go_sem]
theorem zs5 (v:GView) (q:Nat) (hq:q<v.a.ini.length) (hw:∀ w∈v.a.ini,w.sm 1048576):Sp P F.fk [enc v,.int .i64 q] (.pure (.bool (decide (v.a.ini[q]≠v.a.ring.zero)))):=by
 refine Sp.vz c.fk fun _=>?_
 simp [g.fk,go_sem]
 refine zae hq ?_
 refine zab (zu3 v v.a.ini[q] (hw _ (List.getElem_mem hq))) ?_
 simp [go_sem]
theorem z2p (v:GView) (q:Nat) (hq:q<v.a.fin.length) (hw:∀ w∈v.a.fin,w.sm 1048576):Sp P F.fo [enc v,.int .i64 q] (.pure (.bool (decide (v.a.fin[q]≠v.a.ring.zero)))):=by
 refine Sp.vz c.fo fun _=>?_
 simp [g.fo,go_sem]
 refine zae hq ?_
 refine zab (zu3 v v.a.fin[q] (hw _ (List.getElem_mem hq))) ?_
 simp [go_sem]
theorem zys (v:GView) (hl:v.a.arcs.length<=1000000):Sp P F.jk [enc v] (.pure (.bool (v.a.arcs.any fun x=>decide (x.l=0)))):=by
 refine Sp.vz c.jk fun _=>?_
 generalize hr:(v.a.arcs.any fun x=>decide (x.l=0))=res
 simp [g.jk,go_sem]
 refine zai (S:=fun k:Nat=>mkSt [(7,.p (.sl (ens v.a.arcs))),(8,.p (.int .i64 v.a.arcs.length)),(9,.p (.int .i64 k))] []) (I:=fun k=>k<=v.a.arcs.length/\∀ x∈v.a.arcs.take k,x.l≠0) (m:=fun k=>v.a.arcs.length - k) 0
  (Weak.to [7,8,9] [] (by simp [go_sem])) ⟨by omega,by simp⟩ ?_
 rintro k ⟨h6,h7⟩ R hn' hr' hx
 have e1:=i64s k (by omega)
 simp [g.pt,mkSt,go_sem]
 refine ⟨fun hk=>?_,fun hk=>hx _ _ ?_⟩
 ·refine zae hk ?_
  refine ⟨fun h0=>hr' _ ?_,fun h0=>?_⟩
  ·have:res=true:=by rw [<- hr]; simp only [List.any_eq_true,decide_eq_true_eq]; exact ⟨_,List.getElem_mem hk,h0⟩
   simp [go_sem,this]
  ·simp [go_sem,e1]
   refine hn' (k+1) _ (Weak.to [7,8,9] [] (by simp [mkSt,go_sem])) ⟨by omega,fun x hx=>?_⟩ (by omega)
   rw [List.take_succ_eq_append_getElem hk] at hx
   rcases List.mem_append.1 hx with hx|hx
   ·exact h7 x hx
   ·simp only [List.mem_singleton] at hx; subst hx; exact h0
 ·have hk':k=v.a.arcs.length:=by omega
  have:res=false:=by
   rw [<- hr,List.any_eq_false]; intro x hx
   rw [hk',List.take_length] at h7
   simpa using h7 x hx
  simp [go_sem,this]
end Go.Ab
namespace Go.Ab
open Enc (enc)
def natR (n:Nat):GRat:=⟨false,lb n,[]⟩
theorem zji (n:Nat):rto (n:Rat)=natR n:=by
 have:decide (((n:Nat):Int)<0)=false:=by simp
 unfold rto natR; rw [Rat.num_natCast,Rat.den_natCast,this]; simp
theorem zl1 (n:Nat):(natR n).v=(n:Rat):=by rw [<- zji,ze8]
theorem zl0:natR 0=⟨false,[],[]⟩:=by simp [natR]
theorem zk4 (a b:Nat):rto ((natR a).v+(natR b).v)=natR (a+b):=by
 rw [zl1,zl1,<- zji]; congr 1; push_cast; rfl
theorem zv1 {a b:Nat} (h:b<=a):rto ((natR a).v - (natR b).v)=natR (a - b):=by
 rw [zl1,zl1,<- zji]; congr 1
 have:(a:Rat)=((a - b:Nat):Rat)+(b:Rat):=by rw [<- Rat.natCast_add]; congr 1; omega
 rw [this,Rat.add_sub_cancel]
theorem zk3 (a b:Nat):sgnR ((natR a).v - (natR b).v)=if a<b then -1 else if b<a then 1 else 0:=by
 rw [zl1,zl1]
 have:(a:Rat) - (b:Rat)=(((a:Int) - (b:Int):Int):Rat):=by push_cast; rfl
 rw [this]
 have key:∀ z:Int,sgnR (z:Rat)=if z=0 then 0 else if z<0 then -1 else 1:=fun z=>by unfold sgnR; rw [Rat.num_intCast]
 rw [key]
 by_cases h1:a<b
 ·rw [if_pos h1,if_neg (by omega),if_pos (by omega)]
 ·rw [if_neg h1]
  by_cases h2:b<a
  ·rw [if_pos h2,if_neg (by omega),if_neg (by omega)]
  ·rw [if_neg h2,if_pos (by omega)]
theorem zjr {n k:Nat} (h:n<4294967296^k):(natR n).sm k:=⟨zat h,by simp [natR]⟩
def zaj (l:List GArc) (q:Nat):List GArc:=l.filter fun x=>decide (x.f=(q:Int))
def ltA (l:List GArc) (q:Nat):Nat:=(l.filter fun x=>decide (x.f<(q:Int))).length
def fstA (l:List GArc) (N:Nat):List Int:=(List.range (N+1)).map fun q=>((ltA l q:Nat):Int)
def FS (l:List GArc):Prop:=l.Pairwise fun x y=>x.f<=y.f
theorem z7m (l:List GArc) (q:Nat):ltA l q<=l.length:=List.length_filter_le _ _
theorem zpx (l:List GArc) (q:Nat):ltA l (q+1)=ltA l q+(zaj l q).length:=by
 unfold ltA zaj
 induction l with
 | nil=>rfl
 | cons x l ih =>
  simp only [List.filter_cons,decide_eq_true_eq]
  by_cases h1:x.f<(q:Int)
  ·rw [if_pos (by omega),if_pos h1,if_neg (by omega)]; simp only [List.length_cons]; omega
  ·by_cases h2:x.f=(q:Int)
   ·rw [if_pos (by omega),if_neg h1,if_pos h2]; simp only [List.length_cons]; omega
   ·rw [if_neg (by omega),if_neg h1,if_neg h2]; exact ih
theorem z2h:∀ {l:List GArc} (q:Nat),FS l->l.drop (ltA l q)=l.filter fun x=>decide ((q:Int)<=x.f)
 | [],_,_=>by simp [ltA]
 | x::l,q,h=>by
  obtain ⟨h1,h2⟩:=List.pairwise_cons.1 h
  by_cases hx:x.f<(q:Int)
  ·have e:ltA (x::l) q=ltA l q+1:=by simp [ltA,List.filter_cons,hx]
   rw [e,List.drop_succ_cons,z2h q h2,List.filter_cons,if_neg (by simp; omega)]
  ·have e:ltA (x::l) q=0:=by
    unfold ltA
    rw [List.length_eq_zero_iff,List.filter_eq_nil_iff]
    intro y hy
    rcases List.mem_cons.1 hy with rfl|hy
    ·simpa using hx
    ·have:=h1 y hy; simp; omega
   rw [e,List.drop_zero]
   symm
   rw [List.filter_eq_self]
   intro y hy
   rcases List.mem_cons.1 hy with rfl|hy
   ·simp; omega
   ·have:=h1 y hy; simp; omega
theorem z2g:∀ {l:List GArc} (q:Nat),FS l->(∀ x∈l,(q:Int)<=x.f)->l.take (zaj l q).length=zaj l q
 | [],_,_,_=>by simp [zaj]
 | x::l,q,h,hq=>by
  obtain ⟨h1,h2⟩:=List.pairwise_cons.1 h
  by_cases hx:x.f=(q:Int)
  ·have e:zaj (x::l) q=x::zaj l q:=by simp [zaj,List.filter_cons,hx]
   rw [e,List.length_cons,List.take_succ_cons,z2g q h2 fun y hy=>hq y (by simp [hy])]
  ·have e:zaj (x::l) q=[]:=by
    unfold zaj
    rw [List.filter_eq_nil_iff]
    intro y hy
    have:=hq x (by simp)
    rcases List.mem_cons.1 hy with rfl|hy
    ·simpa using hx
    ·have:=h1 y hy; simp; omega
   rw [e]; rfl
theorem zx1 {l:List GArc} (q:Nat) (h:FS l):(l.drop (ltA l q)).take (ltA l (q+1) - ltA l q)=zaj l q:=by
 have e:ltA l (q+1) - ltA l q=(zaj l q).length:=by rw [zpx]; omega
 have hf:zaj (l.filter fun x=>decide ((q:Int)<=x.f)) q=zaj l q:=by
  unfold zaj
  rw [List.filter_filter]
  apply List.filter_congr
  intro x _
  by_cases hx:x.f=(q:Int)
  ·simp [hx]
  ·simp [hx]
 rw [e,z2h q h,<- hf]
 exact z2g q (List.Pairwise.filter _ h) (fun x hx=>by simpa using (List.mem_filter.1 hx).2)
noncomputable def cn (r:GRing) (fin:List GW) (l:List GArc):Nat->Nat->Nat
 | 0=>fun q=>if fin.getD q r.zero=r.zero then 0 else 1
 | n+1=>fun q=>((zaj l q).map fun x=>cn r fin l n x.t.toNat).sum
theorem zvc {α : Type} {f : α -> Nat} {B:Nat}:∀ {l:List α},(∀ x∈l,f x<=B)->(l.map f).sum<=l.length*B
 | [],_=>by simp
 | x::l,h=>by
  have h1:=h x (by simp)
  have h2:=zvc (l:=l) (B:=B) fun y hy=>h y (by simp [hy])
  simp only [List.map_cons,List.sum_cons,List.length_cons,Nat.succ_mul]; omega
theorem zur (r:GRing) (fin:List GW) {l:List GArc} {K:Nat} (hl:l.length<=K):∀ n q,cn r fin l n q<=K^n
 | 0,q=>by simp only [cn]; split<;>simp
 | n+1,q=>by
  simp only [cn]
  refine Nat.le_trans (zvc fun x _=>zur r fin hl n _) ?_
  rw [Nat.pow_succ,Nat.mul_comm]
  exact Nat.mul_le_mul_left _ (Nat.le_trans (List.length_filter_le _ _) hl)
end Go.Ab
namespace Go.Ab
open Enc (enc)
def mp {α : Type} (n:Nat) (f:Nat -> α):List α := (List.range n).map f
theorem zdm {α : Type} (n:Nat) (f:Nat -> α):(mp n f).length=n:=by simp [mp]
theorem zl4 {α : Type} {n i:Nat} (f:Nat -> α) (h:i<(mp n f).length):(mp n f)[i]=f i:=by simp [mp]
theorem z1f {α : Type} {n i:Nat} (f:Nat -> α) (v : α):(mp n f).set i v=mp n fun q=>if q=i then v else f q:=by
 apply List.ext_getElem
 ·simp [mp]
 ·intro k h1 h2
  rw [List.getElem_set]
  simp only [mp,List.getElem_map,List.getElem_range]
  by_cases h:i=k
  ·subst h; simp
  ·simp [h,Ne.symm h]
theorem zhg {α : Type} {n:Nat} {f g:Nat -> α} (h:∀ q,q<n->f q=g q):mp n f=mp n g:=List.map_congr_left fun q hq=>h q (List.mem_range.1 hq)
theorem zv4 {α : Type} (n:Nat) (a : α):mp n (fun _=>a)=List.replicate n a:=by simp [mp,List.map_const']
def ctA (l:List GArc) (q:Nat):Nat:=(l.filter fun x=>decide (x.f+1=(q:Int))).length
theorem z6t (l:List GArc) (x:GArc) (q:Nat):ctA (l++[x]) q=if x.f+1=(q:Int) then ctA l q+1 else ctA l q:=by
 unfold ctA
 rw [List.filter_append,List.length_append,List.filter_cons]
 by_cases h:x.f+1=(q:Int)
 ·simp [h]
 ·simp [h]
theorem z6u (l:List GArc) (q:Nat):ctA l (q+1)=(zaj l q).length:=by
 unfold ctA zaj; congr 1
 apply List.filter_congr; intro x _
 by_cases h:x.f=(q:Int)
 ·simp [h]
 ·simp [h]
theorem ydv (l:List GArc) (q:Nat):ctA l q<=l.length:=List.length_filter_le _ _
def zkp (a:GAuto) (c:AV):AV:=.agg [.p (.int .i64 a.ring.kind),.p (.sl (ens a.ring.parts)),.p (.int .i64 a.sy),.p (.int .i64 a.st),.p (.sl (ens a.ini)),.p (.sl (ens a.fin)),.p (.sl (ens a.arcs)),c]
def z8v:AV:=.agg [.p (.int .i64 0),.nil,.p (.int .i64 0),.p (.int .i64 0),.nil,.nil,.nil,.nil]
def v1S (a:GAuto) (N k:Nat):St:=mkSt [(2,.ptr 2 0 0 0),(4,.ptr 4 0 0 0),(6,.ptr 6 0 0 0),(26,.p (.sl (ens a.arcs))),(27,.p (.int .i64 a.arcs.length)),(28,.p (.int .i64 k))]
 [(2,⟨8,[z8v]⟩),(4,⟨7,[.p (enc a)]⟩),(6,⟨8,[zkp a (.own 23 0 0 (N+1))]⟩),(23,⟨1,avs (mp (N+1) fun q=>((ctA (a.arcs.take k) q:Nat):Int))⟩)]
def pfx (l:List GArc) (i q:Nat):Int:=if q<=i then ((ltA l q:Nat):Int) else ((ctA l q:Nat):Int)
def v2S (a:GAuto) (N i:Nat):St:=mkSt [(2,.ptr 2 0 0 0),(6,.ptr 6 0 0 0),(43,.p (.int .i64 N)),(44,.p (.int .i64 i))]
 [(2,⟨8,[z8v]⟩),(6,⟨8,[zkp a (.own 23 0 0 (N+1))]⟩),(23,⟨1,avs (mp (N+1) (pfx a.arcs i))⟩)]
structure GAuto.inN (a:GAuto) (N:Nat):Prop where
 st:a.st=(N:Int)
 f:∀ x∈a.arcs,0<=x.f/\x.f<(N:Int)
theorem z8a {a:GAuto} {N:Nat} (h:a.inN N) (hN:N<=1000) (hl:a.arcs.length<=100000) {Q:Exit->St->Prop} {ks:List Kt} {st:St} (hw:Weak st (v1S a N 0)) (hx:zem P 62 Q (zbm 0 ks) 0 (v1S a N a.arcs.length)):vL P 62 Q g.ow ks st:=by
 refine zai (S:=fun k:Nat=>v1S a N k) (I:=fun k=>k<=a.arcs.length) (m:=fun k=>a.arcs.length - k) 0 hw (by omega) ?_
 rintro k hk R hn hr hx'
 have e1:=i64s k (by omega)
 simp [g.ow,v1S,mkSt,zkp,z8v,go_sem]
 refine ⟨fun hlt=>?_,fun hge=>?_⟩
 ·refine zae hlt ?_
  obtain ⟨f0,f1⟩:=h.f _ (List.getElem_mem hlt)
  obtain ⟨q,hq⟩:∃ q:Nat,a.arcs[k].f=(q:Int):=⟨a.arcs[k].f.toNat,by omega⟩
  have hqN:q+1<(mp (N+1) fun q=>((ctA (a.arcs.take k) q:Nat):Int)).length:=by rw [zdm]; omega
  have e2:=i64s q (by omega)
  have hc:=ydv (a.arcs.take k) (q+1)
  rw [List.length_take] at hc
  have e3:IntKind.i64.wrap (((ctA (a.arcs.take k) (q+1):Nat):Int)+1)=((ctA (a.arcs.take k) (q+1)+1:Nat):Int):=i64w (by omega) (by omega)
  simp [go_sem,hq,e2,zdm]
  refine ⟨⟨by omega,by omega⟩,zae hqN ?_⟩
  simp only [zl4,e3,e1]
  refine ⟨⟨by omega,by omega⟩,zae hqN ?_⟩
  refine hn (k+1) _ (Weak.to [2,4,6,26,27,28] [((2,0),2),((4,0),4),((6,0),6),((23,0),23)] ?_) (by omega) (by omega)
  have hset:(avs (mp (N+1) fun q=>((ctA (a.arcs.take k) q:Nat):Int))).set (q+1) (.p (.int .i64 ((ctA (a.arcs.take k) (q+1):Nat)+1)))=avs (mp (N+1) fun q=>((ctA (a.arcs.take (k+1)) q:Nat):Int)):=by
   have:(AV.p (.int .i64 ((ctA (a.arcs.take k) (q+1):Nat)+1)))=.p (enc ((((ctA (a.arcs.take k) (q+1):Nat)+1:Nat)):Int)):=by simp [go_sem]
   rw [this]
   have hs:∀ (l:List Int) (i:Nat) (v:Int),(avs l).set i (.p (enc v))=avs (l.set i v):=fun l i v=>by simp [avs,ens,List.map_set]
   rw [hs,z1f]
   congr 1
   apply zhg
   intro j hj
   rw [List.take_succ_eq_append_getElem hlt,z6t,hq]
   by_cases hj2:j=q+1
   ·subst hj2; simp
   ·rw [if_neg hj2,if_neg (by omega)]
  simp [v1S,mkSt,go_sem,zkp,z8v,hset]
 ·have:k=a.arcs.length:=by omega
  subst this
  exact hx' _ _ (by simpa [v1S,mkSt,zkp,z8v,go_sem] using hx)
theorem z79 {a:GAuto} {N:Nat} (hN:N<=1000) (hl:a.arcs.length<=100000) {Q:Exit->St->Prop} {ks:List Kt} {st:St} (hw:Weak st (v2S a N 0)) (hx:zem P 62 Q (zbm 2 ks) 2 (v2S a N N)):vL P 62 Q g.ox ks st:=by
 refine zai (S:=fun k:Nat=>v2S a N k) (I:=fun k=>k<=N) (m:=fun k=>N - k) 0 hw (by omega) ?_
 rintro k hk R hn hr hx'
 have e1:=i64s k (by omega)
 simp [g.ox,v2S,mkSt,zkp,z8v,go_sem]
 refine ⟨fun hlt=>?_,fun hge=>?_⟩
 ·have hb:k+1<(mp (N+1) (pfx a.arcs k)).length:=by rw [zdm]; omega
  have hb0:k<(mp (N+1) (pfx a.arcs k)).length:=by rw [zdm]; omega
  have h1:pfx a.arcs k (k+1)=((ctA a.arcs (k+1):Nat):Int):=by simp [pfx]; omega
  have h2:pfx a.arcs k k=((ltA a.arcs k:Nat):Int):=by simp [pfx]
  have h3:=zpx a.arcs k
  have h4:=z7m a.arcs (k+1)
  rw [<- z6u] at h3
  have e3:IntKind.i64.wrap (((ctA a.arcs (k+1):Nat):Int)+((ltA a.arcs k:Nat):Int))=((ltA a.arcs (k+1):Nat):Int):=by rw [i64w (by omega) (by omega)]; omega
  simp [go_sem,e1,zdm]
  refine ⟨⟨by omega,by omega⟩,zae hb ?_⟩
  simp only [zl4,h1]
  refine ⟨by omega,zae hb0 ?_⟩
  simp only [zl4,h2,e3]
  refine ⟨⟨by omega,by omega⟩,zae hb ?_⟩
  refine hn (k+1) _ (Weak.to [2,6,43,44] [((2,0),2),((6,0),6),((23,0),23)] ?_) (by omega) (by omega)
  have hset:(avs (mp (N+1) (pfx a.arcs k))).set (k+1) (.p (.int .i64 ((ltA a.arcs (k+1):Nat):Int)))=avs (mp (N+1) (pfx a.arcs (k+1))):=by
   have hs:∀ (l:List Int) (i:Nat) (v:Int),(avs l).set i (.p (.int .i64 v))=avs (l.set i v):=fun l i v=>by
    show (avs l).set i (.p (enc v))=_
    simp [avs,ens,List.map_set]
   rw [hs,z1f]
   congr 1
   apply zhg
   intro j hj
   unfold pfx
   by_cases hj2:j=k+1
   ·subst hj2; simp
   ·rw [if_neg hj2]
    by_cases hj3:j<=k
    ·rw [if_pos hj3,if_pos (by omega)]
    ·rw [if_neg hj3,if_neg (by omega)]
  simp [v2S,mkSt,go_sem,zkp,z8v,hset]
 ·have:k=N:=by omega
  subst this
  exact hx' _ _ (by simpa [v2S,mkSt,zkp,z8v,go_sem] using hx)
end Go.Ab
namespace Go.Ab
open Enc (enc)
attribute [local go_sem] zam Opd.slots
theorem zy8 (v w:GW) (n:Nat) (hv:v.sm n) (hw:w.sm n) (hn:n<=1000) (hn1:1<=n) (cv:v.chk ⟨5,[]⟩) (cw:w.chk ⟨5,[]⟩):Sp P F.ae [enc (⟨5,[]⟩:GRing),enc v,enc w] (.pure (enc (zbv 5 v w))):=by
 have pv:=zku cv
 have pw:=zku cw
 have h1:=zkz (k:=1) pv hv.poly hn1 (by omega)
 have h2:=zkz (k:=1) pw hw.poly hn1 (by omega)
 rw [Nat.mul_one] at h1 h2
 have hl1:=zci pv
 have hl2:=zci pw
 have d1:=zpl hv.poly hn1
 have d2:=zpl hw.poly hn1
 have hD:pden v.poly*pden w.poly<4294967296^(434*n+2):=by
  refine Nat.lt_of_lt_of_le (Nat.mul_lt_mul'' d1 d2) ?_
  rw [<- Nat.pow_add]
  refine zfe ?_
  have e1:n*v.poly.length<=n*216:=Nat.mul_le_mul_left _ hl1
  have e2:n*w.poly.length<=n*216:=Nat.mul_le_mul_left _ hl2
  omega
 have hB:46656*(4294967296^n*pden v.poly*(4294967296^n*pden w.poly))<4294967296^(436*n+3):=by
  have e:46656*(4294967296^n*pden v.poly*(4294967296^n*pden w.poly))=46656*(4294967296^n*4294967296^n*(pden v.poly*pden w.poly)):=by
   rw [Nat.mul_mul_mul_comm]
  have e2:436*n+3=1+(n+n+(434*n+2)):=by omega
  rw [e,e2,Nat.pow_add,Nat.pow_add _ (n+n),Nat.pow_add _ n n]
  refine Nat.mul_lt_mul'' (by decide) ?_
  exact Nat.mul_lt_mul_of_pos_left hD (Nat.mul_pos (Nat.pow_pos (by omega)) (Nat.pow_pos (by omega)))
 have hD':=Nat.lt_of_lt_of_le hD (zfe (show 434*n+2<=1048576 by omega))
 have hB':=Nat.lt_of_lt_of_le hB (zfe (show 436*n+3<=1048576 by omega))
 exact z38 v w (hv.mono (by omega)) (hw.mono (by omega)) cv cw _ _ _ _ h1 h2 (zfu _) (zfu _) hD' hB' (hv.poly.monoR (by omega)) (hw.poly.monoR (by omega))
theorem zq8 (k:Int) (hk:1<=k/\k<=5) (v w:GW) (n:Nat) (hv:v.sm n) (hw:w.sm n) (hn:n<=1000) (hn1:1<=n) (cv:v.chk ⟨k,[]⟩) (cw:w.chk ⟨k,[]⟩) :
  Sp P F.ae [enc (⟨k,[]⟩:GRing),enc v,enc w] (.pure (enc (zbv k v w))):=by
 have hv':=hv.mono (show n<=1048576 by omega)
 have hw':=hw.mono (show n<=1048576 by omega)
 have:k=1\/k=2\/k=3\/k=4\/k=5:=by omega
 rcases this with rfl|rfl|rfl|rfl|rfl
 ·exact z4d v w hv' hw' cv cw
 ·exact z4c v w hv' hw' cv cw
 ·exact z4b v w hv' hw' cv cw
 ·exact z4a v w hv' hw' cv cw
 ·exact zy8 v w n hv hw hn hn1 cv cw
def zc4:List Int->List GW->List GW->List GW
 | k::ks,v::vs,w::ws=>zbv k v w::zc4 ks vs ws
 | _,_,_=>[]
def GRing.times (r:GRing) (v w:GW):GW:=if r.kind=6 then .mk gr0 0 false 0 [] (zc4 r.parts v.parts w.parts) else zbv r.kind v w
theorem zjg:∀ {ks:List Int} {vs ws:List GW},vs.length=ks.length->ws.length=ks.length->(zc4 ks vs ws).length=ks.length
 | [],vs,ws,_,_=>by simp [zc4]
 | k::ks,[],ws,h,_=>by simp at h
 | k::ks,v::vs,[],_,h=>by simp at h
 | k::ks,v::vs,w::ws,h1,h2=>by simp [zc4,zjg (ks:=ks) (vs:=vs) (ws:=ws) (by simpa using h1) (by simpa using h2)]
theorem zjh:∀ {ks:List Int} {vs ws:List GW} {i:Nat} (h:i<ks.length) (h1:i<vs.length) (h2:i<ws.length) (h3:i<(zc4 ks vs ws).length),(zc4 ks vs ws)[i]=zbv ks[i] vs[i] ws[i]
 | k::ks,v::vs,w::ws,0,_,_,_,_=>by simp [zc4]
 | k::ks,v::vs,w::ws,i+1,h,h1,h2,h3=>by
  simp only [zc4,List.getElem_cons_succ]
  exact zjh (by simpa using h) (by simpa using h1) (by simpa using h2) (by simpa [zc4] using h3)
theorem z37 (r:GRing) (v w:GW) (hv:v.sm 1048576) (hw:w.sm 1048576) (cv:v.chk r) (cw:w.chk r) (h6:r.kind=6)
  (hpart:∀ i (h:i<r.parts.length) (h1:i<v.parts.length) (h2:i<w.parts.length),Sp P F.ae [enc (⟨r.parts[i],[]⟩:GRing),enc v.parts[i],enc w.parts[i]] (.pure (enc (zbv r.parts[i] v.parts[i] w.parts[i])))) :
  Sp P F.ae [enc r,enc v,enc w] (.pure (enc (r.times v w))):=by
 have hr0:=cv.1
 have hp:=GRing.ok_parts hr0 h6
 have t1:v.tk r=v:=if_pos cv
 have t2:w.tk r=w:=if_pos cw
 have k1:=zaw r v (hv.mono (by omega))
 have k2:=zaw r w (hw.mono (by omega))
 rw [t1] at k1; rw [t2] at k2
 have lv:=(cv.2.2 h6).1
 have lw:=(cw.2.2 h6).1
 have lp:(zc4 r.parts v.parts w.parts).length=r.parts.length:=zjg lv lw
 refine Sp.vz c.ae fun _=>?_
 simp [g.ae,go_sem]
 refine zaa (zbd r) rfl ?_
 simp [hr0,go_sem]
 refine zab k1 ?_
 simp [go_sem]
 refine zab k2 ?_
 simp [go_sem,h6]
 refine zai (S:=fun k:Nat=>mkSt [(3,.ptr 1 0 0 0),(4,.ptr 2 0 0 0),(5,.ptr 3 0 0 0),(6,.ptr 4 0 0 0),(7,.ptr 5 0 0 0),(8,.p (.int .i64 k))]
   [(1,⟨2,[.p (enc r)]⟩),(2,⟨8,[.p (enc v)]⟩),(3,⟨8,[.p (enc w)]⟩),(4,⟨8,[.agg [.p (.bool false),.nil,.nil,.p (.int .i64 0),.p (.bool false),.p (.int .u64 0),.nil,.nil]]⟩),
    (5,⟨8,[.agg [.p (.bool false),.nil,.nil,.p (.int .i64 0),.p (.bool false),.p (.int .u64 0),.nil,.own 6 0 0 k]]⟩),(6,⟨8,avs ((zc4 r.parts v.parts w.parts).take k)⟩)])
  (I:=fun k=>k<=r.parts.length) (m:=fun k=>r.parts.length - k) 0
  ((Weak.nilCell (s0:=7) (g0:=0) (i:=7) (s:=77) (sz:=8) rfl).trans (Weak.to [3,4,5,6,7,8] [((3,0),1),((4,0),2),((5,0),3),((6,0),4),((7,0),5),((77,0),6)] (by simp [go_sem,h6]))) (by omega) ?_
 rintro k h1 R hn' hr hx
 have e1:=i64s k (by omega)
 simp [g.qr,mkSt,go_sem]
 refine ⟨fun hk=>?_,fun hk=>hx _ _ ?_⟩
 ·have hkv:k<v.parts.length:=by omega
  have hkw:k<w.parts.length:=by omega
  have hpk:=hp.2.2 _ (List.getElem_mem hk)
  refine zaa (zk1 r k hk) rfl ?_
  simp [go_sem]
  refine zae hkv ?_
  try simp [go_sem]
  refine zae hkw ?_
  try simp [go_sem]
  refine zab (hpart k hk hkv hkw) ?_
  have hkL:k<(zc4 r.parts v.parts w.parts).length:=by omega
  have hts:avs ((zc4 r.parts v.parts w.parts).take (k+1))=avs ((zc4 r.parts v.parts w.parts).take k)++[.p (enc (zbv r.parts[k] v.parts[k] w.parts[k]))]:=by
   rw [List.take_succ_eq_append_getElem hkL,zdb,zjh hk hkv hkw hkL]; rfl
  simp [e1,go_sem]
  exact ⟨⟨by omega,by omega⟩,hn' (k+1) _ (Weak.to [3,4,5,6,7,8] [((1,0),1),((2,0),2),((3,0),3),((4,0),4),((5,0),5),((94,0),6)] (by simp [go_sem,hts])) (by omega) (by omega)⟩
 ·have hk':k=(zc4 r.parts v.parts w.parts).length:=by omega
  have hpl:r.times v w=.mk gr0 0 false 0 [] (zc4 r.parts v.parts w.parts):=by simp [GRing.times,h6]
  rw [hpl]
  subst hk'
  simp [go_sem]
theorem zy7 (r:GRing) (v w:GW) (n:Nat) (hv:v.sm n) (hw:w.sm n) (hn:n<=1000) (hn1:1<=n) (cv:v.chk r) (cw:w.chk r):Sp P F.ae [enc r,enc v,enc w] (.pure (enc (r.times v w))):=by
 have hr0:=cv.1
 by_cases h6:r.kind=6
 rotate_left
 ·have hk:=GRing.ok_kind hr0 h6
  have he:r=⟨r.kind,[]⟩:=by rw [<- hk.2.2]
  have h1:r.times v w=zbv r.kind v w:=by simp [GRing.times,h6]
  rw [h1,he]
  rw [he] at cv cw
  exact zq8 r.kind ⟨hk.1,hk.2.1⟩ v w n hv hw hn hn1 cv cw
 exact z37 r v w (hv.mono (by omega)) (hw.mono (by omega)) cv cw h6 fun i h h1 h2 =>
  zq8 r.parts[i] ((GRing.ok_parts hr0 h6).2.2 _ (List.getElem_mem h)) v.parts[i] w.parts[i] n (hv.parts _ (List.getElem_mem h1)) (hw.parts _ (List.getElem_mem h2)) hn hn1 (zf6 cv h6 h h1) (zf6 cw h6 h h2)
end Go.Ab
