/-
Proofs for the law TransducerWeighsMadeModels, part 46. Conditions: none.
-/
import Derived.Test.YtbhboeijjgiflaaGreatDoorCP45
import Derived.Test.YtbhboeijjgiflaaGreatDoorCP39
import Derived.Test.YtbhboeijjgiflaaGreatDoorCP15
import Derived.Test.YtbhboeijjgiflaaGreatDoorCP30
set_option maxRecDepth 100000
set_option maxHeartbeats 4000000
set_option linter.all false
namespace Go.Ab
open Enc (enc)
attribute [local go_sem] zal Opd.slots
theorem zuu(t:GTrans)(h:t.sm 1048576)(li:t.ini.length<=1000000)(lf:t.fin.length<=1000000)(ok:¬ t.ok)(wx wy:List Int) :
  Sp P F.an [enc t,.sl (ens wx),.sl (ens wy)] (.pure (.tup [enc gw0,.int .i64 4])):=by
 refine Sp.vz c.an fun _=>?_;simp[g.an,go_sem];refine zab (zfy t h li lf) ?_;simp[go_sem,ok];exact⟨rfl,rfl,rfl,rfl,rfl,rfl,rfl,rfl⟩
theorem zo7(w:List Int)(m:Int):Sp P F.cg [.sl (ens w),.int .i64 m] (.pure (.bool (decide ((1<=m/\m<=32)/\w.length<=256/\∀ x∈w,1<=x/\x<=m)))):=by
 by_cases h256:w.length<=1000000000
 ·exact zml w m h256
 refine Sp.vz c.cg fun _=>?_;simp[g.cg,go_sem];refine zaa (zfl m) rfl ?_;have h1:¬ w.length<=256:=by omega
 by_cases hm:1<=m/\m<=32;rotate_left
 ·simp[go_sem,hm]
  done
 simp[go_sem,hm,h1];exact fun h=>absurd h (by omega)
theorem zut(t:GTrans)(n:Nat)(hn:n<=90)(hn1:3<=n)(h:t.sm n)(hl:t.arcs.length<=19)(ok:t.ok)(wx wy:List Int)(hc:emC t=false)(hw:¬ (zdx wx t.i/\zdx wy t.o)) :
  Sp P F.an [enc t,.sl (ens wx),.sl (ens wy)] (.pure (.tup [enc gw0,.int .i64 9])):=by
 have h0:=ok.il;have h2:=ok.fl;have h3:=ok.st2;have vx:=zo7 wx t.i;have vy:=zo7 wy t.o;refine Sp.vz c.an fun _=>?_;simp[g.an,go_sem];refine zab (zfy t (h.mono (by omega)) (by omega) (by omega)) ?_;simp[go_sem,ok];refine zab (zk8 t n hn hn1 h hl ok) ?_;simp[go_sem,hc];refine zab vx ?_;by_cases h1:zdx wx t.i
 ·have h2:¬ zdx wy t.o:=fun h2=>hw ⟨h1,h2⟩;rw[decide_eq_true (show(1<=t.i/\t.i<=32)/\wx.length<=256/\∀ x∈wx,1<=x/\x<=t.i from h1)];simp[go_sem];refine zab vy ?_;rw[decide_eq_false (show ¬ ((1<=t.o/\t.o<=32)/\wy.length<=256/\∀ x∈wy,1<=x/\x<=t.o) from h2)];simp[go_sem];exact⟨rfl,rfl,rfl,rfl,rfl,rfl,rfl,rfl⟩
 ·rw[decide_eq_false (show ¬ ((1<=t.i/\t.i<=32)/\wx.length<=256/\∀ x∈wx,1<=x/\x<=t.i) from h1)];simp[go_sem];exact⟨rfl,rfl,rfl,rfl,rfl,rfl,rfl,rfl⟩
structure GTrans.lw (t:GTrans):Prop where
 sm:t.sm 8
 li:∀ w∈t.wts,w.li
 i5:t.ini.length<=5
 f5:t.fin.length<=5
 al:t.arcs.length<=12
theorem zux{t:GTrans}(h:t.lw)(ok:t.ok)(wx wy:List Int)(hx:wx.length<=3)(hy:wy.length<=3)(hs:(wx.length+1)*(wy.length+1)*t.st.toNat<=48)(hwx:zdx wx t.i)(hwy:zdx wy t.o)(hc:emC t=false) :
  (Sp P F.ar [enc t,.sl (ens wx),.sl (ens wy)] (.pure (.tup [enc (wgt t.nf wx wy),.int .i64 0]))/\(wgt t.nf wx wy).chk t.nf.ring/\(wgt t.nf wx wy).sm 400000) /\
  Sp P F.an [enc t,.sl (ens wx),.sl (ens wy)] (.pure (.tup [enc (wgt t.nf wx wy),.int .i64 0])):=by
 have h1:=h.al;have h2:=h.i5;have h3:=h.f5;have hil:=ok.il;have hal:=zkp t;obtain⟨M,hM,mp,hf⟩:=zyc ok h.li (by simp[GTrans.wts];omega);have hN:t.st.toNat<=5:=by omega
 have hsl:sLv (t.arcs.length+100) t.nf.arcs<=125:=by unfold sLv;omega
 have hP:=zmk t M mp (z:=t.arcs.length+100) (n:=8) (by omega) (by omega) h.sm (by omega) ok hf (by omega) wx wy hwx hwy hc ?_;refine⟨⟨hP.1,hP.2.1,hP.2.2.2⟩,zuw M t 8 (by omega) (by omega) h.sm (by omega) ok hf wx wy (by omega) (by omega) ?_ hc hwx hwy⟩;rotate_left
 ·have e:(wx.length+1)*((wy.length+1)*(t.st.toNat*sLv (t.arcs.length+100) t.nf.arcs))=(wx.length+1)*(wy.length+1)*t.st.toNat*sLv (t.arcs.length+100) t.nf.arcs:=by simp only[ym5]
  have:=yma hs hsl;rw[e,hM];omega
 ·have e:lvl t.nf (t.arcs.length+100) (wx.length+wy.length+1)<=7*(6*125):=by unfold lvl;refine yma (by omega) (yma ?_ (by omega));show t.st.toNat+1<=6;omega
  rw[hM];omega
theorem zuy{t:GTrans}(h:t.lw)(wx wy:List Int)(lx:wx.length<=9223372036854775807)(ly:wy.length<=9223372036854775807)(hx:wx.length<=256->wx.length<=3)(hy:wy.length<=256->wy.length<=3)(hs:t.ok->wx.length<=256->wy.length<=256->(wx.length+1)*(wy.length+1)*t.st.toNat<=48) :
  ∃ (v:GW) (e:Int),Sp P F.ar [enc t,.sl (ens wx),.sl (ens wy)] (.pure (.tup [enc v,.int .i64 e]))/\Sp P F.an [enc t,.sl (ens wx),.sl (ens wy)] (.pure (.tup [enc v,.int .i64 e]))/\v.sm 1048576:=by
 have h1:=h.al;have h2:=h.i5;have h3:=h.f5;have g0:gw0.sm 1048576:=ygi _;by_cases ok:t.ok;rotate_left
 ·exact⟨gw0,4,zu0 t (n:=8) (by omega) (by omega) h.sm (by omega) (by omega) (by omega) ok wx wy,zuu t (h.sm.mono (by omega)) (by omega) (by omega) ok wx wy,g0⟩
 cases hc:emC t with
 | true=>exact⟨gw0,10,zu1 t (n:=8) (by omega) (by omega) h.sm (by omega) ok wx wy hc,zuv t 8 (by omega) (by omega) h.sm (by omega) ok wx wy hc,g0⟩
 | false =>
  by_cases hw:zdx wx t.i/\zdx wy t.o
  ·obtain⟨⟨k1,_,k2⟩,k3⟩:=zux h ok wx wy (hx hw.1.2.1) (hy hw.2.2.1) (hs ok hw.1.2.1 hw.2.2.1) hw.1 hw.2 hc;exact⟨_,_,k1,k3,k2.mono (by omega)⟩
  ·exact⟨gw0,9,zuz t (n:=8) (by omega) (by omega) h.sm (by omega) ok wx wy lx ly hc hw,zut t 8 (by omega) (by omega) h.sm (by omega) ok wx wy hc hw,g0⟩
end Go.Ab
namespace Go.Ab
open Enc (enc)
attribute [local go_sem] zal Opd.slots
theorem GTrans.tin.lw{t:GTrans}(h:t.tin):t.lw:=by
 have:=h.ok.il;have:=h.ok.fl;have:=h.st
 refine⟨h.sm.mono (by omega),fun w hw=>?_,by omega,by omega,by have:=h.al;omega⟩;simp only[GTrans.wts,ylp,yl6]at hw;rcases hw with hw|hw|⟨x,hx,rfl⟩
 ·exact(h.ini w hw).sm.li
 ·exact(h.fin w hw).sm.li
 ·exact(h.arcs x hx).sm.li
theorem weighsMade_sp(k:Int)(m:GModel)(wi wo:List Int):Sp P F.nc [.int .i64 k,enc m,.sl (ens wi),.sl (ens wo)] (.pure (.bool true)):=by
 have hT:=zzl m (zqy k) 2 2 3 (zxk k) (by omega) (by omega) (by omega);have hts:=z6x m (zqy k) 2 2 3 (zxk k) (by omega) (by omega) (by omega);generalize zmp m (zqy k) 2 2 3=t at *
 have cx:=z1j wi 2 3 (by omega) (by omega) (by omega);have cy:=z1j wo 2 3 (by omega) (by omega) (by omega)
 change Sp P F.bz _ (.pure (.sl (ens (zzi wi 2 3))))at cx
 change Sp P F.bz _ (.pure (.sl (ens (zzi wo 2 3))))at cy
 have lx:=zss wi 2 3;have ly:=zss wo 2 3;generalize zzi wi 2 3=X at *
 generalize zzi wo 2 3=Y at *
 obtain⟨v,e,k1,k2,k3⟩:=zuy hT.lw X Y (by omega) (by omega) (by omega) (by omega) (fun ok _ _=>by
  have:=hT.st;have h3:(X.length+1)*(Y.length+1)<=4*4:=yma (by omega) (by omega);have h4:=yma h3 (show t.st.toNat<=3 by omega);omega)
 have k4:=zob v k3 v;rw[decide_eq_true (rfl:v=v)]at k4;refine Sp.vz c.nc fun _=>?_;simp[g.nc,go_sem];refine zab (yb1 k) ?_;simp[go_sem];refine zab hts ?_;simp[go_sem];refine zab cx ?_;simp[go_sem];refine zab cy ?_;simp[go_sem];refine zab k1 ?_;simp[go_sem];refine zab k2 ?_;simp[go_sem];refine zab z03 ?_;simp[go_sem];refine zab k4 ?_;simp[go_sem]
end Go.Ab
namespace Go.Ab
open Enc (enc)
attribute [local go_sem] zal Opd.slots
end Go.Ab
namespace Go.Ab
open Enc (enc)
structure GW.pl (n:Nat) (w:GW):Prop where
 o:w.poly.length<=n
 ps:∀ x∈w.parts,x.poly.length<=n
end Go.Ab
namespace Go.Ab
open Enc (enc)
attribute [local go_sem] zal Opd.slots
section
variable (t:GTrans) (r:GRing) (X Y:List Int) (v s:GW) (j:Nat) (R:Exit->St->Option FA->Prop)
end
end Go.Ab
namespace Go.Ab
open Enc (enc)
attribute [local go_sem] zal Opd.slots
section
variable (t:GTrans) (r:GRing) (X Y:List Int) (v s:GW) (j:Nat) (R:Exit->St->Option FA->Prop)
end
end Go.Ab
namespace Go.Ab
open Enc (enc)
attribute [local go_sem] zal Opd.slots
end Go.Ab
set_option linter.all false
namespace Go.Ab
open Enc (enc)
section
variable {H:Type} {en:TypeId × Value->H} {w:World}
theorem rdInt(n:Nat):RdN en P w n T.int (IsC Int):=yfn ty.int
theorem rdBool(n:Nat):RdN en P w n T.bool (IsC Bool):=yb4 ty.bool
theorem rdInts(n:Nat):RdN en P w n T.ints (IsC (List Int)):=z72 (fun _=>rfl) (fun _=>rfl) ty.ints ty.cell fun k _=>rdInt k
theorem gmodel_one(x:GModel):(enc x).cells.all PV.one=true:=by simp[go_sem,PV.cells]
theorem rdModel(n:Nat):RdN en P w n T.model (IsC GModel):=z2r (Ds:=[IsC Int,IsC (List Int),IsC (List Int),IsC (List Int),IsC Bool]) ty.model rfl (fun m _=>⟨rdInt m,rdInts m,rdInts m,rdInts m,rdBool m,trivial⟩) fun ls h=>by obtain⟨_,ls1,rfl,⟨a,rfl⟩,h1⟩:=h.cons;obtain⟨_,ls2,rfl,⟨b,rfl⟩,h2⟩:=h1.cons;obtain⟨_,ls3,rfl,⟨c,rfl⟩,h3⟩:=h2.cons;obtain⟨_,ls4,rfl,⟨d,rfl⟩,h4⟩:=h3.cons;obtain⟨_,ls5,rfl,⟨e,rfl⟩,h5⟩:=h4.cons;obtain rfl:=h5.nil;exact⟨⟨a,b,c,d,e⟩,by simp[PV.cells,go_sem]⟩
end
end Go.Ab
