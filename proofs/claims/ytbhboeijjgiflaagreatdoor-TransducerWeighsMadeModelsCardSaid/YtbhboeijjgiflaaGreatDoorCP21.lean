/-
Proofs for the law TransducerWeighsMadeModels, part 21. Conditions: none.
-/
import Derived.Test.YtbhboeijjgiflaaGreatDoorCP18
import Derived.KernelRfl
set_option maxRecDepth 100000
set_option maxHeartbeats 4000000
set_option linter.all false
namespace Go.Ab
open Go.Proofs
theorem c.bo:zad P F.bo=some ⟨11,2,g.bo.er,[(4,some 2)]⟩:=by kernel_rfl
theorem c.ah:zad P F.ah=some ⟨107,2,g.ah.er,[(4,none)]⟩:=by kernel_rfl
theorem c.gi:zad P F.gi=some ⟨9,1,g.gi.er,[(2,none)]⟩:=by kernel_rfl
theorem c.ij:zad P F.ij=some ⟨40,2,g.ij.er,[(4,none)]⟩:=by kernel_rfl
theorem c.cg:zad P F.cg=some ⟨33,2,g.cg.er,[(4,none)]⟩:=by kernel_rfl
theorem c.bs:zad P F.bs=some ⟨15,3,g.bs.er,[(6,none)]⟩:=by kernel_rfl
theorem c.gj:zad P F.gj=some ⟨24,3,g.gj.er,[(6,none)]⟩:=by kernel_rfl
theorem c.lj:zad P F.lj=some ⟨37,2,g.lj.er,[(4,none)]⟩:=by kernel_rfl
theorem c.jz:zad P F.jz=some ⟨61,3,g.jz.er,[(6,none)]⟩:=by kernel_rfl
theorem c.jp:zad P F.jp=some ⟨58,1,g.jp.er,[(2,some 8)]⟩:=by kernel_rfl
theorem c.jq:zad P F.jq=some ⟨9,1,g.jq.er,[(2,none)]⟩:=by kernel_rfl
theorem c.fw:zad P F.fw=some ⟨105,1,g.fw.er,[(2,none)]⟩:=by kernel_rfl
theorem c.an:zad P F.an=some ⟨171,3,g.an.er,[(6,some 8),(7,none)]⟩:=by kernel_rfl
theorem c.fx:zad P F.fx=some ⟨33,4,g.fx.er,[(8,none)]⟩:=by kernel_rfl
theorem c.dv:zad P F.dv=some ⟨100,2,g.dv.er,[(4,none)]⟩:=by kernel_rfl
theorem c.ki:zad P F.ki=some ⟨41,2,g.ki.er,[(4,none)]⟩:=by kernel_rfl
theorem c.jw:zad P F.jw=some ⟨26,3,g.jw.er,[(6,none)]⟩:=by kernel_rfl
theorem c.gk:zad P F.gk=some ⟨24,2,g.gk.er,[(4,none)]⟩:=by kernel_rfl
theorem c.jx:zad P F.jx=some ⟨52,2,g.jx.er,[(4,none)]⟩:=by kernel_rfl
theorem c.dz:zad P F.dz=some ⟨53,2,g.dz.er,[(4,none)]⟩:=by kernel_rfl
theorem c.ba:zad P F.ba=some ⟨47,2,g.ba.er,[(4,none)]⟩:=by kernel_rfl
theorem c.io:zad P F.io=some ⟨17,2,g.io.er,[(4,none)]⟩:=by kernel_rfl
theorem c.ap:zad P F.ap=some ⟨30,3,g.ap.er,[(6,some 8)]⟩:=by kernel_rfl
theorem c.gp:zad P F.gp=some ⟨20,4,g.gp.er,[(6,some 8)]⟩:=by kernel_rfl
theorem c.ay:zad P F.ay=some ⟨30,3,g.ay.er,[(6,some 8)]⟩:=by kernel_rfl
theorem c.gr:zad P F.gr=some ⟨20,4,g.gr.er,[(6,some 8)]⟩:=by kernel_rfl
theorem c.bq:zad P F.bq=some ⟨31,1,g.bq.er,[(2,none)]⟩:=by kernel_rfl
theorem c.ig:zad P F.ig=some ⟨6,1,g.ig.er,[(2,none)]⟩:=by kernel_rfl
theorem c.bc:zad P F.bc=some ⟨19,1,g.bc.er,[(2,some 8)]⟩:=by kernel_rfl
theorem c.gm:zad P F.gm=some ⟨8,2,g.gm.er,[(4,some 8)]⟩:=by kernel_rfl
theorem c.lc:zad P F.lc=some ⟨10,0,g.lc.er,[(0,some 9)]⟩:=by kernel_rfl
theorem c.cm:zad P F.cm=some ⟨32,1,g.cm.er,[(2,none)]⟩:=by kernel_rfl
theorem c.cn:zad P F.cn=some ⟨2,0,g.cn.er,[(0,some 8)]⟩:=by kernel_rfl
theorem c.cq:zad P F.cq=some ⟨10,2,g.cq.er,[(4,some 8)]⟩:=by kernel_rfl
theorem c.bj:zad P F.bj=some ⟨26,2,g.bj.er,[(4,some 8)]⟩:=by kernel_rfl
theorem c.d5:zad P F.d5=some ⟨28,2,g.d5.er,[(4,some 8)]⟩:=by kernel_rfl
theorem c.ld:zad P F.ld=some ⟨14,0,g.ld.er,[(0,some 9)]⟩:=by kernel_rfl
theorem c.c9:zad P F.c9=some ⟨21,1,g.c9.er,[(2,none)]⟩:=by kernel_rfl
theorem c.fb:zad P F.fb=some ⟨11,2,g.fb.er,[(4,none)]⟩:=by kernel_rfl
theorem c.fc:zad P F.fc=some ⟨17,3,g.fc.er,[(5,some 8)]⟩:=by kernel_rfl
theorem c.am:zad P F.am=some ⟨17,1,g.am.er,[(2,some 9)]⟩:=by kernel_rfl
theorem c.cr:zad P F.cr=some ⟨19,2,g.cr.er,[(4,none)]⟩:=by kernel_rfl
theorem c.l8:zad P F.l8=some ⟨12,1,g.l8.er,[(2,some 8)]⟩:=by kernel_rfl
theorem c.lh:zad P F.lh=some ⟨2,0,g.lh.er,[(0,some 9)]⟩:=by kernel_rfl
theorem c.fe:zad P F.fe=some ⟨13,1,g.fe.er,[(2,none)]⟩:=by kernel_rfl
theorem c.ff:zad P F.ff=some ⟨2,0,g.ff.er,[(0,some 8)]⟩:=by kernel_rfl
theorem c.fg:zad P F.fg=some ⟨11,2,g.fg.er,[(4,some 8)]⟩:=by kernel_rfl
theorem c.fh:zad P F.fh=some ⟨11,2,g.fh.er,[(4,some 8)]⟩:=by kernel_rfl
theorem c.d9:zad P F.d9=some ⟨2,0,g.d9.er,[(0,some 9)]⟩:=by kernel_rfl
theorem c.ej:zad P F.ej=some ⟨13,1,g.ej.er,[(2,none)]⟩:=by kernel_rfl
theorem c.bh:zad P F.bh=some ⟨2,0,g.bh.er,[(0,some 8)]⟩:=by kernel_rfl
theorem c.eq:zad P F.eq=some ⟨11,2,g.eq.er,[(4,some 8)]⟩:=by kernel_rfl
end Go.Ab
