/-
Proofs for the law TransducerWeighsMadeModels, part 22. Conditions: none.
-/
import Derived.Test.YtbhboeijjgiflaaGreatDoorCP18
import Derived.KernelRfl
set_option maxRecDepth 100000
set_option maxHeartbeats 4000000
set_option linter.all false
namespace Go.Ab
open Go.Proofs
theorem c.bi:zad P F.bi=some ⟨11,2,g.bi.er,[(4,some 8)]⟩:=by kernel_rfl
theorem c.ip:zad P F.ip=some ⟨24,2,g.ip.er,[(4,none)]⟩:=by kernel_rfl
theorem c.lg:zad P F.lg=some ⟨10,0,g.lg.er,[(0,some 9)]⟩:=by kernel_rfl
theorem c.db:zad P F.db=some ⟨8,1,g.db.er,[(2,none)]⟩:=by kernel_rfl
theorem c.de:zad P F.de=some ⟨2,0,g.de.er,[(0,some 8)]⟩:=by kernel_rfl
theorem c.dg:zad P F.dg=some ⟨11,2,g.dg.er,[(4,some 8)]⟩:=by kernel_rfl
theorem c.dh:zad P F.dh=some ⟨11,2,g.dh.er,[(4,some 8)]⟩:=by kernel_rfl
theorem c.ic:zad P F.ic=some ⟨9,1,g.ic.er,[(2,none)]⟩:=by kernel_rfl
theorem c.fa:zad P F.fa=some ⟨4,1,g.fa.er,[(2,none)]⟩:=by kernel_rfl
theorem c.gn:zad P F.gn=some ⟨11,2,g.gn.er,[(4,some 8)]⟩:=by kernel_rfl
theorem c.bt:zad P F.bt=some ⟨8,1,g.bt.er,[(2,none)]⟩:=by kernel_rfl
theorem c.bn:zad P F.bn=some ⟨8,1,g.bn.er,[(2,none)]⟩:=by kernel_rfl
theorem c.bp:zad P F.bp=some ⟨8,1,g.bp.er,[(2,none)]⟩:=by kernel_rfl
theorem c.bl:zad P F.bl=some ⟨8,1,g.bl.er,[(2,none)]⟩:=by kernel_rfl
theorem c.ml:zad P F.ml=some ⟨36,1,g.ml.er,[(2,none)]⟩:=by kernel_rfl
theorem c.kr:zad P F.kr=some ⟨9,2,g.kr.er,[(4,none)]⟩:=by kernel_rfl
theorem c.kq:zad P F.kq=some ⟨9,2,g.kq.er,[(4,none)]⟩:=by kernel_rfl
theorem c.ko:zad P F.ko=some ⟨42,2,g.ko.er,[(4,none)]⟩:=by kernel_rfl
theorem c.kx:zad P F.kx=some ⟨32,3,g.kx.er,[(6,none)]⟩:=by kernel_rfl
theorem c.j5:zad P F.j5=some ⟨32,3,g.j5.er,[(6,none)]⟩:=by kernel_rfl
theorem c.l6:zad P F.l6=some ⟨26,2,g.l6.er,[(4,none)]⟩:=by kernel_rfl
theorem c.mr:zad P F.mr=some ⟨27,2,g.mr.er,[(4,none)]⟩:=by kernel_rfl
theorem c.ln:zad P F.ln=some ⟨19,2,g.ln.er,[(4,none)]⟩:=by kernel_rfl
theorem c.l4:zad P F.l4=some ⟨19,2,g.l4.er,[(4,none)]⟩:=by kernel_rfl
theorem c.lr:zad P F.lr=some ⟨19,2,g.lr.er,[(4,none)]⟩:=by kernel_rfl
theorem c.j8:zad P F.j8=some ⟨48,2,g.j8.er,[(4,none)]⟩:=by kernel_rfl
theorem c.dr:zad P F.dr=some ⟨14,2,g.dr.er,[]⟩:=by kernel_rfl
theorem c.km:zad P F.km=some ⟨9,2,g.km.er,[]⟩:=by kernel_rfl
theorem c.na:zad P F.na=some ⟨53,4,g.na.er,[]⟩:=by kernel_rfl
theorem c.je:zad P F.je=some ⟨53,4,g.je.er,[]⟩:=by kernel_rfl
theorem c.jl:zad P F.jl=some ⟨148,5,g.jl.er,[]⟩:=by kernel_rfl
theorem c.lm:zad P F.lm=some ⟨63,3,g.lm.er,[]⟩:=by kernel_rfl
theorem c.jt:zad P F.jt=some ⟨20,1,g.jt.er,[(2,none)]⟩:=by kernel_rfl
theorem c.fu:zad P F.fu=some ⟨33,1,g.fu.er,[(2,some 8),(3,none)]⟩:=by kernel_rfl
theorem c.j0:zad P F.j0=some ⟨64,2,g.j0.er,[(4,none)]⟩:=by kernel_rfl
theorem c.ib:zad P F.ib=some ⟨8,2,g.ib.er,[(3,none)]⟩:=by kernel_rfl
theorem c.fv:zad P F.fv=some ⟨103,1,g.fv.er,[(2,none)]⟩:=by kernel_rfl
theorem c.ar:zad P F.ar=some ⟨132,3,g.ar.er,[(6,some 8),(7,none)]⟩:=by kernel_rfl
theorem c.d3:zad P F.d3=some ⟨27,2,g.d3.er,[(4,none)]⟩:=by kernel_rfl
theorem c.du:zad P F.du=some ⟨96,1,g.du.er,[(2,none)]⟩:=by kernel_rfl
theorem c.d4:zad P F.d4=some ⟨5,1,g.d4.er,[(2,none)]⟩:=by kernel_rfl
theorem c.j3:zad P F.j3=some ⟨9,1,g.j3.er,[(2,none)]⟩:=by kernel_rfl
theorem c.j9:zad P F.j9=some ⟨61,5,g.j9.er,[]⟩:=by kernel_rfl
theorem c.jv:zad P F.jv=some ⟨104,2,g.jv.er,[]⟩:=by kernel_rfl
theorem c.bf:zad P F.bf=some ⟨59,4,g.bf.er,[(8,none)]⟩:=by kernel_rfl
theorem c.j4:zad P F.j4=some ⟨17,3,g.j4.er,[(6,none)]⟩:=by kernel_rfl
theorem c.ii:zad P F.ii=some ⟨8,2,g.ii.er,[(3,none)]⟩:=by kernel_rfl
theorem c.ju:zad P F.ju=some ⟨10,2,g.ju.er,[(4,none)]⟩:=by kernel_rfl
theorem c.bm:zad P F.bm=some ⟨32,2,g.bm.er,[(4,none)]⟩:=by kernel_rfl
end Go.Ab
