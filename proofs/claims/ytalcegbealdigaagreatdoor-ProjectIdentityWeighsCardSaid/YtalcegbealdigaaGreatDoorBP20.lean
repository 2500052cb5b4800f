/-
Proofs for the law ProjectIdentityWeighs, part 20. Conditions: none.
-/
import Derived.Test.YtalcegbealdigaaGreatDoorBP17
import Derived.KernelRfl
set_option maxRecDepth 100000
set_option maxHeartbeats 4000000
set_option linter.all false
namespace Go.Ab
open Go.Proofs
theorem c.di:zac P F.di=some ⟨24,2,g.di.er,[(4,none)]⟩:=by kernel_rfl
theorem c.g8:zac P F.g8=some ⟨26,1,g.g8.er,[(2,none)]⟩:=by kernel_rfl
theorem c.de:zac P F.de=some ⟨85,2,g.de.er,[(4,none)]⟩:=by kernel_rfl
theorem c.bv:zac P F.bv=some ⟨50,2,g.bv.er,[(4,none)]⟩:=by kernel_rfl
theorem c.az:zac P F.az=some ⟨69,2,g.az.er,[(4,none)]⟩:=by kernel_rfl
theorem c.gg:zac P F.gg=some ⟨9,2,g.gg.er,[(4,none)]⟩:=by kernel_rfl
theorem c.af:zac P F.af=some ⟨42,1,g.af.er,[(2,some 8)]⟩:=by kernel_rfl
theorem c.aa:zac P F.aa=some ⟨100,3,g.aa.er,[(6,some 8)]⟩:=by kernel_rfl
theorem c.jx:zac P F.jx=some ⟨38,2,g.jx.er,[(4,none)]⟩:=by kernel_rfl
theorem c.jy:zac P F.jy=some ⟨27,2,g.jy.er,[(4,none)]⟩:=by kernel_rfl
theorem c.an:zac P F.an=some ⟨48,2,g.an.er,[(4,some 8)]⟩:=by kernel_rfl
theorem c.ae:zac P F.ae=some ⟨97,3,g.ae.er,[(6,some 8)]⟩:=by kernel_rfl
theorem c.ax:zac P F.ax=some ⟨52,1,g.ax.er,[(2,none)]⟩:=by kernel_rfl
theorem c.am:zac P F.am=some ⟨31,1,g.am.er,[(2,some 8)]⟩:=by kernel_rfl
theorem c.bg:zac P F.bg=some ⟨18,2,g.bg.er,[(4,none)]⟩:=by kernel_rfl
theorem c.bh:zac P F.bh=some ⟨11,2,g.bh.er,[(4,some 2)]⟩:=by kernel_rfl
theorem c.ah:zac P F.ah=some ⟨107,2,g.ah.er,[(4,none)]⟩:=by kernel_rfl
theorem c.cr:zac P F.cr=some ⟨9,1,g.cr.er,[(2,none)]⟩:=by kernel_rfl
theorem c.bs:zac P F.bs=some ⟨40,2,g.bs.er,[(4,none)]⟩:=by kernel_rfl
theorem c.fq:zac P F.fq=some ⟨33,2,g.fq.er,[(4,none)]⟩:=by kernel_rfl
theorem c.cn:zac P F.cn=some ⟨100,2,g.cn.er,[(4,none)]⟩:=by kernel_rfl
theorem c.fg:zac P F.fg=some ⟨26,1,g.fg.er,[(2,some 7)]⟩:=by kernel_rfl
theorem c.ap:zac P F.ap=some ⟨15,3,g.ap.er,[(6,none)]⟩:=by kernel_rfl
theorem c.ff:zac P F.ff=some ⟨86,2,g.ff.er,[(4,none)]⟩:=by kernel_rfl
theorem c.j6:zac P F.j6=some ⟨91,1,g.j6.er,[(2,none)]⟩:=by kernel_rfl
theorem c.c9:zac P F.c9=some ⟨24,3,g.c9.er,[(6,none)]⟩:=by kernel_rfl
theorem c.cm:zac P F.cm=some ⟨20,2,g.cm.er,[(4,none)]⟩:=by kernel_rfl
theorem c.j4:zac P F.j4=some ⟨9,1,g.j4.er,[(2,some 2)]⟩:=by kernel_rfl
theorem c.j5:zac P F.j5=some ⟨23,2,g.j5.er,[(4,none)]⟩:=by kernel_rfl
theorem c.j3:zac P F.j3=some ⟨37,3,g.j3.er,[(6,some 8)]⟩:=by kernel_rfl
theorem c.j0:zac P F.j0=some ⟨32,2,g.j0.er,[(4,none),(5,none)]⟩:=by kernel_rfl
theorem c.lj:zac P F.lj=some ⟨22,1,g.lj.er,[(2,none)]⟩:=by kernel_rfl
theorem c.jt:zac P F.jt=some ⟨24,2,g.jt.er,[(4,some 8),(5,none)]⟩:=by kernel_rfl
theorem c.ko:zac P F.ko=some ⟨19,2,g.ko.er,[(4,none)]⟩:=by kernel_rfl
theorem c.nr:zac P F.nr=some ⟨54,3,g.nr.er,[(6,none)]⟩:=by kernel_rfl
theorem c.l5:zac P F.l5=some ⟨37,2,g.l5.er,[(4,none)]⟩:=by kernel_rfl
theorem c.jp:zac P F.jp=some ⟨58,1,g.jp.er,[(2,some 8)]⟩:=by kernel_rfl
theorem c.ju:zac P F.ju=some ⟨9,1,g.ju.er,[(2,none)]⟩:=by kernel_rfl
theorem c.fo:zac P F.fo=some ⟨105,1,g.fo.er,[(2,none)]⟩:=by kernel_rfl
theorem c.jn:zac P F.jn=some ⟨171,3,g.jn.er,[(6,some 8),(7,none)]⟩:=by kernel_rfl
theorem c.ft:zac P F.ft=some ⟨33,4,g.ft.er,[(8,none)]⟩:=by kernel_rfl
theorem c.ck:zac P F.ck=some ⟨100,2,g.ck.er,[(4,none)]⟩:=by kernel_rfl
theorem c.kz:zac P F.kz=some ⟨41,2,g.kz.er,[(4,none)]⟩:=by kernel_rfl
theorem c.jv:zac P F.jv=some ⟨26,3,g.jv.er,[(6,none)]⟩:=by kernel_rfl
theorem c.fu:zac P F.fu=some ⟨24,2,g.fu.er,[(4,none)]⟩:=by kernel_rfl
theorem c.jw:zac P F.jw=some ⟨52,2,g.jw.er,[(4,none)]⟩:=by kernel_rfl
theorem c.bj:zac P F.bj=some ⟨53,2,g.bj.er,[(4,none)]⟩:=by kernel_rfl
theorem c.av:zac P F.av=some ⟨47,2,g.av.er,[(4,none)]⟩:=by kernel_rfl
theorem c.ir:zac P F.ir=some ⟨17,2,g.ir.er,[(4,none)]⟩:=by kernel_rfl
theorem c.bb:zac P F.bb=some ⟨30,3,g.bb.er,[(6,some 8)]⟩:=by kernel_rfl
theorem c.ib:zac P F.ib=some ⟨20,4,g.ib.er,[(6,some 8)]⟩:=by kernel_rfl
end Go.Ab
