/-
Proofs for the law CountIsExhaustive, part 18. Conditions: none.
-/
import Derived.Test.YtdkocfjbmbenfaaGreatDoorBP17
import Derived.KernelRfl
set_option maxRecDepth 100000
set_option maxHeartbeats 4000000
set_option linter.all false
namespace Go.Ab
open Go.Proofs
theorem c.go:zad P F.go=some ⟨24,2,g.go.er,[(4,none)]⟩:=by kernel_rfl
theorem c.kq:zad P F.kq=some ⟨9,2,g.kq.er,[(4,none)]⟩:=by kernel_rfl
theorem c.jv:zad P F.jv=some ⟨31,1,g.jv.er,[(2,some 7),(3,none)]⟩:=by kernel_rfl
theorem c.j6:zad P F.j6=some ⟨64,2,g.j6.er,[(4,none)]⟩:=by kernel_rfl
theorem c.gv:zad P F.gv=some ⟨8,2,g.gv.er,[(3,none)]⟩:=by kernel_rfl
theorem c.j4:zad P F.j4=some ⟨65,1,g.j4.er,[(2,none)]⟩:=by kernel_rfl
theorem c.gt:zad P F.gt=some ⟨8,2,g.gt.er,[(3,none)]⟩:=by kernel_rfl
theorem c.kj:zad P F.kj=some ⟨36,2,g.kj.er,[(4,none)]⟩:=by kernel_rfl
theorem c.kz:zad P F.kz=some ⟨12,2,g.kz.er,[(3,none)]⟩:=by kernel_rfl
theorem c.bz:zad P F.bz=some ⟨22,2,g.bz.er,[(4,none)]⟩:=by kernel_rfl
theorem c.j5:zad P F.j5=some ⟨9,1,g.j5.er,[(2,some 2)]⟩:=by kernel_rfl
theorem c.km:zad P F.km=some ⟨9,2,g.km.er,[(4,none)]⟩:=by kernel_rfl
theorem c.ij:zad P F.ij=some ⟨8,2,g.ij.er,[(3,none)]⟩:=by kernel_rfl
theorem c.im:zad P F.im=some ⟨20,2,g.im.er,[(4,none)]⟩:=by kernel_rfl
theorem c.lg:zad P F.lg=some ⟨18,1,g.lg.er,[(2,none)]⟩:=by kernel_rfl
theorem c.ly:zad P F.ly=some ⟨6,1,g.ly.er,[(2,none)]⟩:=by kernel_rfl
theorem c.ml:zad P F.ml=some ⟨36,2,g.ml.er,[(4,some 3),(5,none),(6,none)]⟩:=by kernel_rfl
theorem c.mj:zad P F.mj=some ⟨43,2,g.mj.er,[(4,none),(5,none),(6,none)]⟩:=by kernel_rfl
theorem c.ja:zad P F.ja=some ⟨30,2,g.ja.er,[(4,some 3),(5,none)]⟩:=by kernel_rfl
theorem c.mn:zad P F.mn=some ⟨29,2,g.mn.er,[(4,some 3),(5,none)]⟩:=by kernel_rfl
theorem c.fj:zad P F.fj=some ⟨19,2,g.fj.er,[(4,some 3)]⟩:=by kernel_rfl
theorem c.dr:zad P F.dr=some ⟨106,3,g.dr.er,[(6,some 3)]⟩:=by kernel_rfl
theorem c.jf:zad P F.jf=some ⟨77,2,g.jf.er,[(4,some 3),(5,none)]⟩:=by kernel_rfl
theorem c.mo:zad P F.mo=some ⟨71,2,g.mo.er,[(4,none),(5,none)]⟩:=by kernel_rfl
theorem c.db:zad P F.db=some ⟨18,2,g.db.er,[(4,some 3)]⟩:=by kernel_rfl
theorem c.bb:zad P F.bb=some ⟨41,1,g.bb.er,[(2,none),(3,none)]⟩:=by kernel_rfl
theorem c.mi:zad P F.mi=some ⟨125,3,g.mi.er,[(6,none)]⟩:=by kernel_rfl
theorem c.fh:zad P F.fh=some ⟨16,2,g.fh.er,[(4,none)]⟩:=by kernel_rfl
theorem c.mm:zad P F.mm=some ⟨48,0,g.mm.er,[(0,none)]⟩:=by kernel_rfl
theorem c.i9:zad P F.i9=some ⟨6,1,g.i9.er,[(2,some 7)]⟩:=by kernel_rfl
theorem c.fi:zad P F.fi=some ⟨26,2,g.fi.er,[(4,none)]⟩:=by kernel_rfl
theorem c.kw:zad P F.kw=some ⟨6,1,g.kw.er,[(2,none)]⟩:=by kernel_rfl
theorem c.mg:zad P F.mg=some ⟨8,1,g.mg.er,[(2,none)]⟩:=by kernel_rfl
theorem c.ej:zad P F.ej=some ⟨19,1,g.ej.er,[(2,none)]⟩:=by kernel_rfl
theorem c.mf:zad P F.mf=some ⟨25,1,g.mf.er,[(2,none)]⟩:=by kernel_rfl
theorem c.l7:zad P F.l7=some ⟨29,2,g.l7.er,[(4,none)]⟩:=by kernel_rfl
theorem c.ir:zad P F.ir=some ⟨32,1,g.ir.er,[(2,none)]⟩:=by kernel_rfl
theorem c.i6:zad P F.i6=some ⟨15,1,g.i6.er,[(2,none)]⟩:=by kernel_rfl
theorem c.l9:zad P F.l9=some ⟨32,1,g.l9.er,[(2,none)]⟩:=by kernel_rfl
theorem c.iu:zad P F.iu=some ⟨21,2,g.iu.er,[(4,none)]⟩:=by kernel_rfl
theorem c.ma:zad P F.ma=some ⟨16,3,g.ma.er,[]⟩:=by kernel_rfl
theorem c.iy:zad P F.iy=some ⟨25,1,g.iy.er,[(2,none)]⟩:=by kernel_rfl
theorem c.bj:zad P F.bj=some ⟨10,2,g.bj.er,[(4,none)]⟩:=by kernel_rfl
theorem c.iz:zad P F.iz=some ⟨6,1,g.iz.er,[(2,none)]⟩:=by kernel_rfl
theorem c.ar:zad P F.ar=some ⟨11,2,g.ar.er,[(4,some 3)]⟩:=by kernel_rfl
theorem c.bt:zad P F.bt=some ⟨9,2,g.bt.er,[(4,none)]⟩:=by kernel_rfl
theorem c.bq:zad P F.bq=some ⟨30,2,g.bq.er,[(4,some 3),(5,none)]⟩:=by kernel_rfl
theorem c.bc:zad P F.bc=some ⟨14,1,g.bc.er,[(2,none)]⟩:=by kernel_rfl
theorem c.dm:zad P F.dm=some ⟨12,2,g.dm.er,[(4,some 3)]⟩:=by kernel_rfl
theorem c.bn:zad P F.bn=some ⟨48,1,g.bn.er,[(2,none)]⟩:=by kernel_rfl
theorem c.jw:zad P F.jw=some ⟨11,1,g.jw.er,[(2,some 3)]⟩:=by kernel_rfl
theorem c.fq:zad P F.fq=some ⟨53,2,g.fq.er,[(4,some 3)]⟩:=by kernel_rfl
end Go.Ab
