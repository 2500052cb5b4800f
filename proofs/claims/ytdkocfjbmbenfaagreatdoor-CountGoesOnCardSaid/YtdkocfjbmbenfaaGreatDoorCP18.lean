/-
Proofs for the law CountGoesOn, part 18. Conditions: none.
-/
import Derived.Test.YtdkocfjbmbenfaaGreatDoorCP17
import Derived.KernelRfl
set_option maxRecDepth 100000
set_option maxHeartbeats 4000000
set_option linter.all false
namespace Go.Ab
open Go.Proofs
theorem c.go:zad P F.go=some ⟨24,2,g.go.er,[(4,none)]⟩:=by kernel_rfl
theorem c.kr:zad P F.kr=some ⟨9,2,g.kr.er,[(4,none)]⟩:=by kernel_rfl
theorem c.jw:zad P F.jw=some ⟨31,1,g.jw.er,[(2,some 7),(3,none)]⟩:=by kernel_rfl
theorem c.j7:zad P F.j7=some ⟨64,2,g.j7.er,[(4,none)]⟩:=by kernel_rfl
theorem c.gv:zad P F.gv=some ⟨8,2,g.gv.er,[(3,none)]⟩:=by kernel_rfl
theorem c.j5:zad P F.j5=some ⟨65,1,g.j5.er,[(2,none)]⟩:=by kernel_rfl
theorem c.gt:zad P F.gt=some ⟨8,2,g.gt.er,[(3,none)]⟩:=by kernel_rfl
theorem c.km:zad P F.km=some ⟨36,2,g.km.er,[(4,none)]⟩:=by kernel_rfl
theorem c.k9:zad P F.k9=some ⟨12,2,g.k9.er,[(3,none)]⟩:=by kernel_rfl
theorem c.bz:zad P F.bz=some ⟨22,2,g.bz.er,[(4,none)]⟩:=by kernel_rfl
theorem c.j6:zad P F.j6=some ⟨9,1,g.j6.er,[(2,some 2)]⟩:=by kernel_rfl
theorem c.kn:zad P F.kn=some ⟨9,2,g.kn.er,[(4,none)]⟩:=by kernel_rfl
theorem c.ij:zad P F.ij=some ⟨8,2,g.ij.er,[(3,none)]⟩:=by kernel_rfl
theorem c.im:zad P F.im=some ⟨20,2,g.im.er,[(4,none)]⟩:=by kernel_rfl
theorem c.lh:zad P F.lh=some ⟨18,1,g.lh.er,[(2,none)]⟩:=by kernel_rfl
theorem c.lz:zad P F.lz=some ⟨6,1,g.lz.er,[(2,none)]⟩:=by kernel_rfl
theorem c.mn:zad P F.mn=some ⟨53,2,g.mn.er,[(4,none),(5,none),(6,none)]⟩:=by kernel_rfl
theorem c.ml:zad P F.ml=some ⟨43,2,g.ml.er,[(4,none),(5,none),(6,none)]⟩:=by kernel_rfl
theorem c.mm:zad P F.mm=some ⟨30,2,g.mm.er,[(4,some 3),(5,none)]⟩:=by kernel_rfl
theorem c.fh:zad P F.fh=some ⟨19,2,g.fh.er,[(4,some 3)]⟩:=by kernel_rfl
theorem c.dm:zad P F.dm=some ⟨106,3,g.dm.er,[(6,some 3)]⟩:=by kernel_rfl
theorem c.jg:zad P F.jg=some ⟨77,2,g.jg.er,[(4,some 3),(5,none)]⟩:=by kernel_rfl
theorem c.je:zad P F.je=some ⟨71,2,g.je.er,[(4,none),(5,none)]⟩:=by kernel_rfl
theorem c.fj:zad P F.fj=some ⟨18,2,g.fj.er,[(4,some 3)]⟩:=by kernel_rfl
theorem c.bn:zad P F.bn=some ⟨41,1,g.bn.er,[(2,none),(3,none)]⟩:=by kernel_rfl
theorem c.mj:zad P F.mj=some ⟨75,2,g.mj.er,[(4,none)]⟩:=by kernel_rfl
theorem c.fg:zad P F.fg=some ⟨16,2,g.fg.er,[(4,none)]⟩:=by kernel_rfl
theorem c.ja:zad P F.ja=some ⟨48,0,g.ja.er,[(0,none)]⟩:=by kernel_rfl
theorem c.i9:zad P F.i9=some ⟨6,1,g.i9.er,[(2,some 7)]⟩:=by kernel_rfl
theorem c.da:zad P F.da=some ⟨26,2,g.da.er,[(4,none)]⟩:=by kernel_rfl
theorem c.kx:zad P F.kx=some ⟨6,1,g.kx.er,[(2,none)]⟩:=by kernel_rfl
theorem c.mh:zad P F.mh=some ⟨8,1,g.mh.er,[(2,none)]⟩:=by kernel_rfl
theorem c.d9:zad P F.d9=some ⟨19,1,g.d9.er,[(2,none)]⟩:=by kernel_rfl
theorem c.mg:zad P F.mg=some ⟨25,1,g.mg.er,[(2,none)]⟩:=by kernel_rfl
theorem c.l8:zad P F.l8=some ⟨29,2,g.l8.er,[(4,none)]⟩:=by kernel_rfl
theorem c.ir:zad P F.ir=some ⟨32,1,g.ir.er,[(2,none)]⟩:=by kernel_rfl
theorem c.i6:zad P F.i6=some ⟨15,1,g.i6.er,[(2,none)]⟩:=by kernel_rfl
theorem c.ma:zad P F.ma=some ⟨32,1,g.ma.er,[(2,none)]⟩:=by kernel_rfl
theorem c.iu:zad P F.iu=some ⟨21,2,g.iu.er,[(4,none)]⟩:=by kernel_rfl
theorem c.mc:zad P F.mc=some ⟨16,3,g.mc.er,[]⟩:=by kernel_rfl
theorem c.iy:zad P F.iy=some ⟨25,1,g.iy.er,[(2,none)]⟩:=by kernel_rfl
theorem c.bi:zad P F.bi=some ⟨10,2,g.bi.er,[(4,none)]⟩:=by kernel_rfl
theorem c.iz:zad P F.iz=some ⟨6,1,g.iz.er,[(2,none)]⟩:=by kernel_rfl
theorem c.au:zad P F.au=some ⟨11,2,g.au.er,[(4,some 3)]⟩:=by kernel_rfl
theorem c.bt:zad P F.bt=some ⟨9,2,g.bt.er,[(4,none)]⟩:=by kernel_rfl
theorem c.bc:zad P F.bc=some ⟨30,2,g.bc.er,[(4,some 3),(5,none)]⟩:=by kernel_rfl
theorem c.bb:zad P F.bb=some ⟨14,1,g.bb.er,[(2,none)]⟩:=by kernel_rfl
theorem c.di:zad P F.di=some ⟨12,2,g.di.er,[(4,some 3)]⟩:=by kernel_rfl
theorem c.bp:zad P F.bp=some ⟨48,1,g.bp.er,[(2,none)]⟩:=by kernel_rfl
theorem c.jx:zad P F.jx=some ⟨11,1,g.jx.er,[(2,some 3)]⟩:=by kernel_rfl
theorem c.fq:zad P F.fq=some ⟨53,2,g.fq.er,[(4,some 3)]⟩:=by kernel_rfl
theorem c.dr:zad P F.dr=some ⟨45,1,g.dr.er,[(2,some 3)]⟩:=by kernel_rfl
end Go.Ab
