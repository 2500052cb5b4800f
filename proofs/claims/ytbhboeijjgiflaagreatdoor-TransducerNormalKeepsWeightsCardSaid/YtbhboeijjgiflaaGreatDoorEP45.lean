/-
Proofs for the law TransducerNormalKeepsWeights, part 45. Conditions: none.
-/
import Derived.Test.YtbhboeijjgiflaaGreatDoorEP44
import Derived.Test.YtbhboeijjgiflaaGreatDoorEP39
import Derived.Test.YtbhboeijjgiflaaGreatDoorEP38
import Derived.Test.YtbhboeijjgiflaaGreatDoorEP15
import Derived.Test.YtbhboeijjgiflaaGreatDoorEP30
set_option maxRecDepth 100000
set_option maxHeartbeats 4000000
set_option linter.all false
namespace Go.Ab
open Enc (enc)
attribute [local go_sem] zal Opd.slots
theorem zs8 (l m:List GTArc) (f:FuncId) (hl:l.length<=4611686018427387904) (hf:∀ x∈l,∀ y∈m,Sp P f [enc x,enc y] (.pure (.bool (decide (x=y))))) :
  Sp P F.jk [.sl (ens l),.sl (ens m),.fn f []] (.pure (.bool (decide (l=m)))):=by
 refine Sp.vz c.jk fun _=>?_
 simp [g.jk,go_sem]
 refine ⟨fun h=>?_,fun h=>fun he=>h (by rw [he])⟩
 have hlen:l.length=m.length:=by omega
 refine zai (S:=fun k:Nat=>mkSt [(1,.p (.sl (ens m))),(2,.p (.fn f [])),(15,.p (.sl (ens l))),(16,.p (.int .i64 l.length)),(17,.p (.int .i64 k))] []) (I:=fun k=>k<=l.length/\l.take k=m.take k) (m:=fun k=>l.length - k) 0
  (Weak.to [1,2,15,16,17] [] (by simp [go_sem])) ⟨by omega,by simp⟩ ?_
 rintro k ⟨h1,h2⟩ R hn hr hx
 have e1:=i64s k (by omega)
 simp [g.ph,mkSt,go_sem]
 refine ⟨fun hk=>?_,fun hk=>hx _ _ ?_⟩
 ·have hk2:k<m.length:=by omega
  have bad:l[k]≠m[k]->l≠m:=fun h h'=>by subst h'; exact h rfl
  refine zae hk ?_
  try simp [go_sem]
  refine zae hk2 ?_
  try simp [go_sem]
  refine zab (hf l[k] (List.getElem_mem hk) m[k] (List.getElem_mem hk2)) ?_
  by_cases h6:l[k]=m[k]
  ·simp [h6,e1,go_sem]
   exact hn (k+1) _ (Weak.to [1,2,15,16,17] [] (by simp [go_sem])) ⟨by omega,by rw [List.take_succ_eq_append_getElem hk,List.take_succ_eq_append_getElem hk2,h2,h6]⟩ (by omega)
  ·have h8:l≠m:=bad h6
   simp [h6,go_sem]
   exact hr _ (by simp [h8,go_sem])
 ·have h3:l=m:=by rw [<- List.take_length (l:=l),<- List.take_length (l:=m),<- hlen,show l.length=k by omega]; exact h2
  simp [h3,go_sem]
theorem z67 (l m:List Int) (hl:l.length<=4611686018427387904):Sp P F.j0 [.sl (ens l),.sl (ens m)] (.pure (.bool (decide (l=m)))):=by
 refine Sp.vz c.j0 fun _=>?_
 simp [g.j0,go_sem]
 refine ⟨fun h=>?_,fun h=>fun he=>h (by rw [he])⟩
 have hlen:l.length=m.length:=by omega
 refine zai (S:=fun k:Nat=>mkSt [(0,.p (.sl (ens l))),(1,.p (.sl (ens m))),(12,.p (.int .i64 l.length)),(13,.p (.int .i64 k))] []) (I:=fun k=>k<=l.length/\l.take k=m.take k) (m:=fun k=>l.length - k) 0
  (Weak.to [0,1,12,13] [] (by simp [go_sem])) ⟨by omega,by simp⟩ ?_
 rintro k ⟨h1,h2⟩ R hn hr hx
 have e1:=i64s k (by omega)
 simp [g.qd,mkSt,go_sem]
 refine ⟨fun hk=>?_,fun hk=>hx _ _ ?_⟩
 ·have hk2:k<m.length:=by omega
  have bad:l[k]≠m[k]->l≠m:=fun h h'=>by subst h'; exact h rfl
  refine zae hk ?_
  try simp [go_sem]
  refine zae hk2 ?_
  try simp [go_sem]
  refine ⟨fun h6=>?_,fun h6=>?_⟩
  ·simp [e1]
   exact hn (k+1) _ (Weak.to [0,1,12,13] [] (by simp [go_sem])) ⟨by omega,by rw [List.take_succ_eq_append_getElem hk,List.take_succ_eq_append_getElem hk2,h2,h6]⟩ (by omega)
  ·have h8:l≠m:=bad h6
   exact hr _ (by simp [h8,go_sem])
 ·have h3:l=m:=by rw [<- List.take_length (l:=l),<- List.take_length (l:=m),<- hlen,show l.length=k by omega]; exact h2
  simp [h3,go_sem]
theorem z5m (r s:GRing) (hl:r.parts.length<=4611686018427387904):Sp P F.jj [enc r,enc s] (.pure (.bool (decide (r=s)))):=by
 refine Sp.vz c.jj fun _=>?_
 simp [g.jj,go_sem]
 have e:decide (r=s)=(decide (r.kind=s.kind)&&decide (r.parts=s.parts)):=by
  cases r; cases s; simp [GRing.mk.injEq]
 rw [e]
 by_cases hk:r.kind=s.kind
 ·simp [hk,go_sem]
  refine zab (z67 r.parts s.parts hl) ?_
  simp [go_sem]
 ·simp [hk,go_sem]
  exact fun h=>hk (by rw [h])
theorem z0q (x y:GTArc) (hx:x.w.sm 1048576):Sp P F.dq [enc x,enc y] (.pure (.bool (decide (x=y)))):=by
 have h:=z0p x y hx
 have e:decide (x=y)=decide (x.key=y.key/\x.w=y.w):=by
  refine decide_eq_decide.2 ⟨fun h=>by subst h; exact ⟨rfl,rfl⟩,fun h=>?_⟩
  obtain ⟨h1,h2⟩:=h
  cases x; cases y
  simp only [GTArc.key,List.cons.injEq,and_true] at h1
  simp only [GTArc.mk.injEq]
  exact ⟨h1.1,h1.2.1,h1.2.2.1,h1.2.2.2,h2⟩
 rw [e]; exact h
theorem z5l (a b:GTrans) (h:a.sm 1048576) (li:a.ini.length<=1000000) (lf:a.fin.length<=1000000) (la:a.arcs.length<=1000000) (hp:a.ring.parts.length<=4611686018427387904) :
  Sp P F.fg [enc a,enc b] (.pure (.bool (decide (a=b)))):=by
 refine Sp.vz c.fg fun _=>?_
 simp [g.fg,go_sem]
 refine zab (z5m a.ring b.ring hp) ?_
 by_cases h1:a.ring=b.ring
 rotate_left
 ·rw [decide_eq_false h1]; simp [go_sem]; exact fun h=>h1 (by rw [h])
 rw [decide_eq_true h1]; simp [go_sem]
 by_cases h2:a.i=b.i
 rotate_left
 ·simp [h2]; exact fun h=>h2 (by rw [h])
 by_cases h22:a.o=b.o
 rotate_left
 ·simp [h2,h22]; exact fun h=>h22 (by rw [h])
 by_cases h3:a.st=b.st
 rotate_left
 ·simp [h2,h22,h3]; exact fun h=>h3 (by rw [h])
 simp [h2,h22,h3]
 refine zab (zfj a.ini b.ini F.an (by omega) fun x hx y _=>zct x (h.ini x hx) y) ?_
 by_cases h4:a.ini=b.ini
 rotate_left
 ·rw [decide_eq_false h4]; simp [go_sem]; exact fun h=>h4 (by rw [h])
 rw [decide_eq_true h4]; simp [go_sem]
 refine zab (zfj a.fin b.fin F.an (by omega) fun x hx y _=>zct x (h.fin x hx) y) ?_
 by_cases h5:a.fin=b.fin
 rotate_left
 ·rw [decide_eq_false h5]; simp [go_sem]; exact fun h=>h5 (by rw [h])
 rw [decide_eq_true h5]; simp [go_sem]
 refine zab (zs8 a.arcs b.arcs F.dq (by omega) fun x hx y _=>z0q x y (h.arcs x hx)) ?_
 simp [go_sem]
 have e:a.arcs=b.arcs ↔ a=b:=⟨fun h6=>by cases a; cases b; simp_all,fun h=>by rw [h]⟩
 simp [e]
end Go.Ab
namespace Go.Ab
open Enc (enc)
attribute [local go_sem] zal Opd.slots
end Go.Ab
namespace Go.Ab
open Enc (enc)
attribute [local go_sem] zal Opd.slots
structure GTrans.lw (t:GTrans):Prop where
 sm:t.sm 8
 li:∀ w∈t.wts,w.li
 i5:t.ini.length<=5
 f5:t.fin.length<=5
 al:t.arcs.length<=12
end Go.Ab
namespace Go.Ab
open Enc (enc)
attribute [local go_sem] zal Opd.slots
theorem GTrans.tin.lw {t:GTrans} (h:t.tin):t.lw:=by
 have:=h.ok.il; have:=h.ok.fl; have:=h.st
 refine ⟨h.sm.mono (by omega),fun w hw=>?_,by omega,by omega,by have:=h.al; omega⟩
 simp only [GTrans.wts,List.mem_append,List.mem_map] at hw
 rcases hw with hw|hw|⟨x,hx,rfl⟩
 ·exact (h.ini w hw).sm.li
 ·exact (h.fin w hw).sm.li
 ·exact (h.arcs x hx).sm.li
end Go.Ab
namespace Go.Ab
open Enc (enc)
attribute [local go_sem] zal Opd.slots
theorem zru {t:GTrans} (hT:t.tin) {u:GTrans} (hu:u.nf=t.nf) (uok:u.ok) {n:Nat} (hn:n<=90) (hn1:3<=n) (us:u.sm n) (ua:u.arcs.length<=19) (ui:u.i=t.i) (uo:u.o=t.o) (ust:u.st=t.st) (wx wy:List Int) (lx:wx.length<=3) (ly:wy.length<=3) (hwx:zog wx t.i) (hwy:zog wy t.o) :
  Sp P F.ax [enc u,.sl (ens wx),.sl (ens wy)] (.pure (.tup [enc (wV t wx wy),.int .i64 (wE t)]))/\(wV t wx wy).sm 1048576:=by
 have he:emC u=emC t:=by unfold emC; rw [hu,ust]
 unfold wV wE
 cases hc:emC t with
 | true =>
  simp only [if_true]
  exact ⟨ztt u hn hn1 us ua uok wx wy (by rw [he]; exact hc),yek _⟩
 | false =>
  simp only [Bool.false_eq_true,if_false]
  have ok:=hT.ok
  have hal:=zmw t
  have h1:=hT.al
  have h2:=hT.st
  have hil:=ok.il
  have hfl:=ok.fl
  obtain ⟨M,hM,mp,hf⟩:=zwx ok hT.lw.li (by simp [GTrans.wts]; omega)
  have hsl:sLv (t.arcs.length+100) t.nf.arcs<=115:=by unfold sLv; omega
  have key:∀ v:GTrans,v=t.nf->∀ M:Meas t.ring,M.lim=12000->MeasP M->t.nf.fits M (t.arcs.length+100)->∃ M':Meas v.ring,M'.lim=12000/\MeasP M'/\v.fits M' (t.arcs.length+100):=by
   rintro v rfl M h1 h2 h3
   exact ⟨M,h1,h2,h3⟩
  obtain ⟨M',hM',mp',hf'⟩:=key u.nf hu M hM mp hf
  have:=zl2 u M' mp' (z:=t.arcs.length+100) (n:=n) hn hn1 us ua uok hf' (by omega) wx wy (by rw [ui]; exact hwx) (by rw [uo]; exact hwy) (by rw [he]; exact hc) (by
   have e:(wx.length+1)*((wy.length+1)*(u.st.toNat*sLv (t.arcs.length+100) u.nf.arcs))=(wx.length+1)*(wy.length+1)*u.st.toNat*sLv (t.arcs.length+100) u.nf.arcs:=by simp only [Nat.mul_assoc]
   have h3:(wx.length+1)*(wy.length+1)<=4*4:=Nat.mul_le_mul (by omega) (by omega)
   have h4:=Nat.mul_le_mul h3 (show u.st.toNat<=3 by omega)
   have h5:=Nat.mul_le_mul h4 hsl
   rw [e,hM',hu]; omega)
  obtain ⟨p1,_,_,p4⟩:=this
  rw [hu] at p1 p4
  exact ⟨p1,p4.mono (by omega)⟩
theorem yeb:g.l8=.seq (.reg [⟨some 6,.box 5 (.t 1),none⟩,⟨some 10,.mv (.c (.p (.bool false))),none⟩] [[1],[10]]) yar:=rfl
theorem normalKeeps_sp (k:Int) (m:GModel) (wi wo:List Int) (cut:Int):Sp P F.l8 [.int .i64 k,enc m,.sl (ens wi),.sl (ens wo),.int .i64 cut] (.pure (.bool true)):=by
 have hT:=zx2 m (zmg k) 2 2 3 (zv6 k) (by omega) (by omega) (by omega)
 have hts:=z4p m (zmg k) 2 2 3 (zv6 k) (by omega) (by omega) (by omega)
 have hi:(ziv m (zmg k) 2 2 3).i=2:=rfl
 have ho:(ziv m (zmg k) 2 2 3).o=2:=rfl
 generalize ziv m (zmg k) 2 2 3=t at *
 have ok:=hT.ok
 have hal:=hT.al
 have hst:=hT.st
 have hil:=ok.il
 have hfl:=ok.fl
 have lx:=zrs wi 2 2
 have ly:=zrs wo 2 2
 have wx:=zvs wi 2 2 (by omega) (by omega)
 have wy:=zvs wo 2 2 (by omega) (by omega)
 have cx:=zzt wi 2 2 (by omega) (by omega) (by omega)
 have cy:=zzt wo 2 2 (by omega) (by omega) (by omega)
 change Sp P F.bv _ (.pure (.sl (ens (zrt wi 2 2)))) at cx
 change Sp P F.bv _ (.pure (.sl (ens (zrt wo 2 2)))) at cy
 generalize zrt wi 2 2=X at *
 generalize zrt wo 2 2=Y at *
 have hcut:=zcx cut (t.arcs.length+1:Nat) (by omega) (by omega)
 obtain ⟨at',hat⟩:∃ a:Nat,cut % ((t.arcs.length+1:Nat):Int)=(a:Int):=⟨(cut % ((t.arcs.length+1:Nat):Int)).toNat,by have:=Int.emod_nonneg cut (show ((t.arcs.length+1:Nat):Int)≠0 by omega); omega⟩
 have hat2:at'<=t.arcs.length:=by have:=Int.emod_lt_of_pos cut (show 0<((t.arcs.length+1:Nat):Int) by omega); omega
 rw [hat] at hcut
 have hperm:t.arcs.Perm (t.arcs.drop at'++t.arcs.take at'):=(List.perm_append_comm.trans (by rw [List.take_append_drop])).symm
 have kn:=zep t 3 (by omega) (by omega) hT.sm (by omega) (by omega) (by omega)
 rw [if_pos ok,if_pos ok] at kn
 have uok:=ydh ok hperm
 have unf:=yee ok hperm
 have usm:({ t with arcs:=t.arcs.drop at'++t.arcs.take at' }:GTrans).sm 3:=⟨hT.sm.ini,hT.sm.fin,fun x hx=>hT.sm.arcs x (hperm.mem_iff.2 hx)⟩
 have ual:(t.arcs.drop at'++t.arcs.take at').length<=7:=by rw [<- hperm.length_eq]; exact hal
 have ku:=zep ({ t with arcs:=t.arcs.drop at'++t.arcs.take at' }:GTrans) 3 (by omega) (by omega) usm (by show (t.arcs.drop at'++t.arcs.take at').length<=19; omega) (by show t.ini.length<=_; omega) (by show t.fin.length<=_; omega)
 rw [if_pos uok,if_pos uok,unf] at ku
 have nok:=zws ok
 have nil:=nok.il
 have nfl:=nok.fl
 have nst:t.nf.st=t.st:=rfl
 have ka:=zep t.nf 32 (by omega) (by omega) hT.nf_sm (by have:=hT.nf_len; omega) (by omega) (by omega)
 rw [if_pos nok,if_pos nok,yef ok] at ka
 have kv:=zl3 t.nf (hT.nf_sm.mono (by omega)) (by omega) (by omega)
 rw [decide_eq_true nok] at kv
 have hp:t.nf.ring.parts.length<=4611686018427387904:=by
  by_cases h6:t.nf.ring.kind=6
  ·have:=(GRing.ok_parts nok.ring h6).2.1; omega
  ·rw [(GRing.ok_kind nok.ring h6).2.2]; simp
 have ks:=z5l t.nf t.nf (hT.nf_sm.mono (by omega)) (by omega) (by omega) (by have:=hT.nf_len; omega) hp
 rw [decide_eq_true rfl] at ks
 obtain ⟨w1,hsm⟩:=zru hT (u:=t.nf) (yef ok) nok (n:=32) (by omega) (by omega) hT.nf_sm (by have:=hT.nf_len; omega) rfl rfl rfl X Y (by omega) (by omega) (by rw [hi]; exact wx) (by rw [ho]; exact wy)
 obtain ⟨w2,_⟩:=zru hT (u:=({ t with arcs:=t.arcs.drop at'++t.arcs.take at' }:GTrans)) unf uok (n:=3) (by omega) (by omega) usm (by show (t.arcs.drop at'++t.arcs.take at').length<=19; omega) rfl rfl rfl X Y (by omega) (by omega) (by rw [hi]; exact wx) (by rw [ho]; exact wy)
 have k4:=zs7 _ hsm (wV t X Y)
 rw [decide_eq_true rfl] at k4
 generalize wV t X Y=V at *
 generalize wE t=E at *
 generalize t.nf=v at *
 generalize hu:({ t with arcs:=t.arcs.drop at'++t.arcs.take at' }:GTrans)=u at *
 have hmain:MR P 118 nkA7.er ⟨[(2,.p (.sl (ens wi))),(3,.p (.sl (ens wo))),(11,.ptr 11 0 0 0),(13,.ptr 13 0 0 0)],[(11,[some ⟨8,[.p (enc t)]⟩]),(13,[some ⟨8,[.p (enc u)]⟩]),(DEAD,[none])]⟩ none fun ex s _=>retP [(10,none)] (.pure (.bool true)) ex s:=by
  refine MR.of_vm ?_
  unfold nkA7 nkA6 nkA5 nkA4 nkA3 nkA2 nkA1
  simp [go_sem]
  refine zab kn ?_
  simp [go_sem]
  refine zab ku ?_
  simp [go_sem]
  refine zab ka ?_
  simp [go_sem]
  refine zab cx ?_
  simp [go_sem]
  refine zab cy ?_
  simp [go_sem]
  refine zab w1 ?_
  simp [go_sem]
  refine zab w2 ?_
  simp [go_sem]
  refine zab zzh ?_
  simp [go_sem]
  refine zab kv ?_
  simp [go_sem]
  refine zab ks ?_
  simp [go_sem]
  refine zab ks ?_
  simp [go_sem]
  refine zab k4 ?_
  simp [go_sem]
 have e1:IntKind.i64.wrap ((t.arcs.length:Int)+1)=((t.arcs.length+1:Nat):Int):=(i64w (by omega) (by omega)).trans (by omega)
 refine Sp.of_mr c.l8 (by simp) ?_
 generalize (fun (ex:Exit) (s:St) (_:Option FA)=>retP [(10,none)] (RV.pure (PV.bool true)) ex s)=R at *
 clear kn ku ka cx cy w1 w2 kv ks k4
 rw [yeb]
 unfold yar yec nkA9 nkA8
 generalize nkA7=W at *
 refine MR.gseq ?_
 simp [go_sem]
 refine MR.gseq ?_
 simp [go_sem]
 refine zab (z9t k) ?_
 simp [go_sem]
 refine zab hts ?_
 simp [go_sem]
 refine MR.gseq ?_
 simp [go_sem,e1]
 refine zab hcut ?_
 simp [go_sem]
 refine MR.gseq ?_
 simp [go_sem]
 refine MR.gseq ?_
 simp [go_sem]
 refine ⟨by omega,by omega,by omega,by omega,?_⟩
 have htk:List.take (t.arcs.length - at') (List.drop at' t.arcs)=List.drop at' t.arcs:=List.take_of_length_le (by simp)
 have hlen:t.arcs.length - at'+min at' t.arcs.length=t.arcs.length:=by omega
 simp only [htk,hlen,<- zc1]
 have hLl:=hperm.length_eq
 generalize List.drop at' t.arcs++List.take at' t.arcs=L at *
 refine MR.weak (Weak.freezeTo (s:=13) (g:=0) (n:=6) [enc u] [(46,0)] rfl ?_ ?_ ?_) ?_
 ·subst hu
  simp [go_sem,hLl,zix,St.obj,St.site,look]
 ·simp [go_sem,z3q,z3p,St.obj,St.site,look]
 ·simp
 ·refine MR.weak (Weak.to [2,3,11,13] [((11,0),11),((13,0),13)] ?_) hmain
  simp [go_sem,killAll,mkSt,St.setObj,deps]
end Go.Ab
namespace Go.Ab
open Enc (enc)
structure GW.pl (n:Nat) (w:GW):Prop where
 o:w.poly.length<=n
 ps:∀ x∈w.parts,x.poly.length<=n
end Go.Ab
namespace Go.Ab
open Enc (enc)
attribute [local go_sem] zal Opd.slots
section
variable (t:GTrans) (r:GRing) (X Y:List Int) (v s:GW) (j:Nat) (R:Exit->St->Option FA->Prop)
end
end Go.Ab
namespace Go.Ab
open Enc (enc)
attribute [local go_sem] zal Opd.slots
section
variable (t:GTrans) (r:GRing) (X Y:List Int) (v s:GW) (j:Nat) (R:Exit->St->Option FA->Prop)
end
end Go.Ab
namespace Go.Ab
open Enc (enc)
attribute [local go_sem] zal Opd.slots
end Go.Ab
set_option linter.all false
namespace Go.Ab
open Enc (enc)
section
variable {H:Type} {en:TypeId × Value->H} {w:World}
theorem rdInt (n:Nat):RdN en P w n T.int (IsC Int):=ydl ty.int
theorem rdBool (n:Nat):RdN en P w n T.bool (IsC Bool):=z9w ty.bool
theorem rdInts (n:Nat):RdN en P w n T.ints (IsC (List Int)):=z5t (fun _=>rfl) (fun _=>rfl) ty.ints ty.cell fun k _=>rdInt k
theorem gmodel_one (x:GModel):(enc x).cells.all PV.one=true:=by simp [go_sem,PV.cells]
theorem rdModel (n:Nat):RdN en P w n T.model (IsC GModel):=z00 (Ds:=[IsC Int,IsC (List Int),IsC (List Int),IsC (List Int),IsC Bool]) ty.model rfl (fun m _=>⟨rdInt m,rdInts m,rdInts m,rdInts m,rdBool m,trivial⟩) fun ls h=>by
 obtain ⟨_,ls1,rfl,⟨a,rfl⟩,h1⟩:=h.cons
 obtain ⟨_,ls2,rfl,⟨b,rfl⟩,h2⟩:=h1.cons
 obtain ⟨_,ls3,rfl,⟨c,rfl⟩,h3⟩:=h2.cons
 obtain ⟨_,ls4,rfl,⟨d,rfl⟩,h4⟩:=h3.cons
 obtain ⟨_,ls5,rfl,⟨e,rfl⟩,h5⟩:=h4.cons
 obtain rfl:=h5.nil
 exact ⟨⟨a,b,c,d,e⟩,by simp [PV.cells,go_sem]⟩
end
end Go.Ab
